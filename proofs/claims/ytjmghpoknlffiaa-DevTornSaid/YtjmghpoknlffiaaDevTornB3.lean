/-
  What the proof of DevTorn rests on, part 3 of 3.
-/
import Derived.Test.YtjmghpoknlffiaaDevTornB2
namespace Go.Proofs.Ytjmghpoknlffiaa
open Go.ChangeShapes Go.WideShapes Go.ChangeAt Go.RowKit
set_option linter.unusedSimpArgs false

section
variable {F : Nat → Prop} {w1 w : World} {d : Nat} {s : Dv}
theorem write_at (N : DevNext F w1 w d s) (i : Nat) (hi : i < s.st.length) (ho : s.off = false) (ha : spentOff s.ar = false) {G : Nat} {b : List Nat} (hG : Blk w1 G 5 (b.map vb).toArray) (hb : Bl b) (hn : ¬ F G) (hwl : s.wa.length ≤ 1000000000) (hrl : s.wr.length ≤ 1000000000) :
    Calls Try.prog 12 #[.pointer (some ⟨d, 0, none⟩), .int .i64 (i : Int), .slice (some ⟨G, 0, none⟩) 256 256] w fun e w' => e = .returned (.int .i64 0) ∧ DevNext F w1 w' d (s.put i b).spent := by
  refine (writeD_good N.1 i hi ho _ 256 b ((bytes_blk hG hb.1 hb.2).mods N.2 (fun ad had => by injection had with had; rw [← had]; exact hn)) (fun ad had => by injection had with had; rw [← had]; exact not_grown hn hG.lt) hwl hrl).mono ?_
  rintro e w' ⟨rfl, h⟩
  exact ⟨by rw [ha]; rfl, N.trans h⟩
theorem flush_at (N : DevNext F w1 w d s) (ho : s.off = false) (ha : spentOff s.ar = false) (hwl : s.wa.length ≤ 1000000000) :
    Calls Try.prog 13 #[.pointer (some ⟨d, 0, none⟩)] w fun e w' => e = .returned (.int .i64 0) ∧ DevNext F w1 w' d s.spent.flush :=
  (flushD_go N.1 ho ha hwl).mono fun e w' h => ⟨h.1, N.trans h.2⟩
theorem crash_at (N : DevNext F w1 w d s) : Calls Try.prog 14 #[.pointer (some ⟨d, 0, none⟩)] w fun e w' => e = .returned (.tuple #[]) ∧ DevNext F w1 w' d s.crash :=
  (crashD N.1).mono fun e w' h => ⟨h.1, N.trans h.2⟩
theorem DevNext.trans2 {a a' b : World} {s1 s2 : Dv} (h : DevNext F w1 a d s1) (hb : Below a.heap.size a a') (h' : DevNext (Grown F w1 a) a' b d s2) : DevNext F w1 b d s2 :=
  ⟨h'.1.mono (fun k hk => by
    rcases hk with (hk | hk) | hk
    · exact .inl hk
    · exact .inr ⟨hk.1, Nat.lt_of_lt_of_le hk.2 (Nat.le_trans hb.size h'.2.size)⟩
    · exact .inr ⟨Nat.le_trans h.2.size (Nat.le_trans hb.size hk.1), hk.2⟩) (fun k hk => by
    rcases hk with hk | hk
    · exact h'.1.2.1 k (.inl (.inl hk))
    · omega), (h.2.below hb).trans h'.2 (fun k hk => by
    rcases hk with hk | hk
    · exact .inl hk
    · exact .inr hk.1)⟩
/-- The power comes back, with fates that lie in new memory. -/
theorem on_new {w2 : World} (N : DevNext F w1 w d s) (hb : Below w.heap.size w w2) (ho : s.off = true) {a : Option Addr} {len : Nat} (cap : Nat) {fs : List Int} (hf : NumsIn w2 a len fs) (hout : ∀ ad, a = some ad → ¬ Grown F w1 w ad.block) (hlen : len ≤ 9223372036854775807) (hwl : s.wa.length ≤ 1000000000) :
    Calls Try.prog 17 #[.pointer (some ⟨d, 0, none⟩), .slice a len cap] w2 fun e w' => e = .returned (.tuple #[]) ∧ DevNext F w1 w' d (s.on fs) :=
  (onD_down (N.1.below hb) ho a len cap fs hf hout hlen hwl).mono fun e w' h => ⟨h.1, N.trans2 hb h.2⟩
theorem read_at (N : DevNext F w1 w d s) (i : Nat) (hi : i < s.st.length) (ho : s.off = false) (hwl : s.wa.length ≤ 1000000000) {D : List Nat} (hD : s.now i = D) : Calls Try.prog 15 #[.pointer (some ⟨d, 0, none⟩), .int .i64 (i : Int)] w fun e w' =>
    ∃ G, e = .returned (.tuple #[.slice (some ⟨G, 0, none⟩) 256 256, .int .i64 0]) ∧ w.heap.size ≤ G ∧ BytesIn w' (some ⟨G, 0, none⟩) 256 256 D ∧ DevNext F w1 w' d s ∧ Below w.heap.size w w' ∧ Blk w' G 73 (D.map vb).toArray := by
  refine (readD_good N.1 i hi ho hwl).mono ?_
  rintro e w' ⟨G, rfl, h1, h2, h3⟩
  rw [hD] at h2
  exact ⟨G, rfl, h1, bytes_256 h2 (by rw [← hD]; exact N.1.1.now hi), N.then_below h3, h3, h2⟩
/-- A slice of one int, just made. -/
theorem nums_one (w : World) (v : Int) (hv : -9223372036854775808 ≤ v ∧ v ≤ 9223372036854775807) : NumsIn (w.alloc (.cells #[.int .i64 v] 3)) (some ⟨w.heap.size, 0, none⟩) 1 [v] :=
  ⟨rfl, fun x hx => by rw [List.mem_singleton.1 hx]; exact hv, fun _ => ⟨w.heap.size, 0, rfl, by simp, fun j x hx => by
    cases j with
    | zero => injection hx with hx; subst hx; exact (Blk.made w 3 #[.int .i64 v]).at 0 _ rfl
    | succ j => cases hx⟩⟩
theorem alloc_out (N : DevNext F w1 w d s) (o : Obj) : DevNext F w1 (w.alloc o) d s ∧ True := ⟨N.then_below (nu_alloc (nu_refl w) o), trivial⟩
end
theorem awk_now (A B : List Nat) : (((((((Dv.new 4).put 3 A).spent.spent.flush).put 3 B).spent).crash).on [0]).now 3 = A := rfl
theorem awk_co (A B : List Nat) : (((((((Dv.new 4).put 3 A).spent.spent.flush).put 3 B).spent).crash).on [0]).co = 3 := rfl
theorem bytes_made (w : World) (xs : List Nat) (hx : ∀ x ∈ xs, x < 256) (cs : Array Value) (hc : cs = (xs.map vb).toArray) (n : Nat) (hn : xs.length = n) : BytesIn (w.alloc (.cells cs 5)) (some ⟨w.heap.size, 0, none⟩) n n xs := by
  subst hc
  exact bytes_blk (Blk.made w 5 _) hn hx

set_option maxRecDepth 100000 in
set_option maxHeartbeats 8000000 in
theorem awake10 (w : World) : Calls Try.prog 20 #[] w fun e w' => e = .returned (.bool true) ∧ Below w.heap.size w w' := by
  have HNw := Lib.hid (devNew_any 4 (by omega) (by omega) w)
  go_enter Try.func20, Try.ntmps20
  go_wp2_with fail
  refine HNw.out.mono ?_
  rintro e w1 ⟨d, rfl, F, hR, hF, hb⟩
  have HR := Lib.hid hR
  have HF := Lib.hid hF
  have Hn1 := Lib.hid hb
  clear hR hF hb HNw
  have H1 := Lib.hid (bytes_made w1 [1] (by decide) #[.int .u8 1] rfl 1 rfl)
  have hal1 := nu_alloc (nu_refl w1) (.cells #[.int .u8 1] 5)
  have Hal1 := Lib.hid hal1
  clear hal1
  obtain ⟨A, hA⟩ : ∃ A, A = fullL [1] := ⟨_, rfl⟩
  have HAb := Lib.hid (show Bl A by rw [hA]; exact fullL_bl (by decide))
  obtain ⟨B, hB⟩ : ∃ B, B = fullL [2] := ⟨_, rfl⟩
  have HBb := Lib.hid (show Bl B by rw [hB]; exact fullL_bl (by decide))
  have HFa := Lib.hid (full_any _ 1 1 [1] _ H1.out (by omega))
  rw [← hA] at HFa
  have HB2 := Lib.hid hB
  clear hA hB
  go_wp2_with fail
  refine HFa.out.mono ?_
  rintro e w2 ⟨Ga, rfl, hGa, hBa, hb⟩
  have HGa := Lib.hid (And.intro (show w1.heap.size ≤ Ga from Nat.le_trans Hal1.out.size hGa) hBa)
  have Hb2 := Lib.hid (nu_trans Hal1.out hb)
  have H2 := Lib.hid (bytes_made w2 [2] (by decide) #[.int .u8 2] rfl 1 rfl)
  have Hal2 := Lib.hid (nu_alloc (nu_refl w2) (.cells #[.int .u8 2] 5))
  have HFb := Lib.hid (full_any _ 1 1 [2] _ H2.out (by omega))
  rw [← HB2.out] at HFb
  clear hGa hBa hb HFa H1 Hal1
  go_wp2_with fail
  refine HFb.out.mono ?_
  rintro e w3 ⟨Gb, rfl, hGb, hBb, hb⟩
  have hb3 := nu_trans Hal2.out hb
  have HGb := Lib.hid (And.intro (show w1.heap.size ≤ Gb from Nat.le_trans (Nat.le_trans Hb2.out.size Hal2.out.size) hGb) hBb)
  have HGa3 := Lib.hid (And.intro HGa.out.1 (HGa.out.2.below hb3 HGa.out.2.lt))
  have Hb3 := Lib.hid (nu_trans Hb2.out hb3)
  have HnF := Lib.hid (show ¬ F Ga ∧ ¬ F Gb from ⟨fun h => by have := HR.out.2.1 _ h; have := HGa.out.1; omega, fun h => by have := HR.out.2.1 _ h; have := HGb.out.1; omega⟩)
  have HN0 := Lib.hid (DevNext.refl (HR.out.below Hb3.out))
  have Hn3 := Lib.hid (nu_trans Hn1.out Hb3.out)
  have HFw := Lib.hid HF.out
  clear hGb hBb hb hb3 HFb H2 Hal2 HGa HR Hb2 Hb3 HF Hn1 HB2
  obtain ⟨s0, hs0⟩ : ∃ s0, s0 = Dv.new 4 := ⟨_, rfl⟩
  rw [← hs0] at HN0
  have HW := Lib.hid (write_at HN0.out 3 (by rw [hs0]; decide) (by rw [hs0]; rfl) (by rw [hs0]; rfl) HGa3.out.2 HAb.out HnF.out.1 (by rw [hs0]; decide) (by rw [hs0]; decide))
  have Hs0 := Lib.hid hs0
  clear hs0 HN0
  go_wp2_with fail
  refine HW.out.mono ?_
  rintro e w4 ⟨rfl, hN⟩
  obtain ⟨s1, hs1⟩ : ∃ s1, s1 = (s0.put 3 A).spent := ⟨_, rfl⟩
  rw [← hs1] at hN
  rw [Hs0.out] at hs1
  have HFl := Lib.hid (flush_at hN (by rw [hs1]; rfl) (by rw [hs1]; rfl) (by rw [hs1]; show 1 ≤ 1000000000; omega))
  have Hs1 := Lib.hid hs1
  clear hs1 hN HW Hs0
  go_wp2_with fail
  refine HFl.out.mono ?_
  rintro e w5 ⟨rfl, hN⟩
  obtain ⟨s2, hs2⟩ : ∃ s2, s2 = s1.spent.flush := ⟨_, rfl⟩
  rw [← hs2] at hN
  rw [Hs1.out] at hs2
  have HW := Lib.hid (write_at hN 3 (by rw [hs2]; show 3 < 4; omega) (by rw [hs2]; rfl) (by rw [hs2]; rfl) HGb.out.2 HBb.out HnF.out.2 (by rw [hs2]; show 0 ≤ 1000000000; omega) (by rw [hs2]; show 1 ≤ 1000000000; omega))
  have Hs2 := Lib.hid hs2
  clear hs2 hN HFl Hs1
  go_wp2_with fail
  refine HW.out.mono ?_
  rintro e w6 ⟨rfl, hN⟩
  obtain ⟨s3, hs3⟩ : ∃ s3, s3 = (s2.put 3 B).spent := ⟨_, rfl⟩
  rw [← hs3] at hN
  rw [Hs2.out] at hs3
  have HC := Lib.hid (crash_at hN)
  have Hs3 := Lib.hid hs3
  clear hs3 hN HW Hs2
  go_wp2_with fail
  refine HC.out.mono ?_
  rintro e w7 ⟨rfl, hN⟩
  obtain ⟨s4, hs4⟩ : ∃ s4, s4 = s3.crash := ⟨_, rfl⟩
  rw [← hs4] at hN
  rw [Hs3.out] at hs4
  have hal := nu_alloc (nu_refl w7) (.cells #[.int .i64 0] 3)
  have HOn := Lib.hid (on_new hN hal (by rw [hs4]; rfl) 1 (nums_one w7 0 (by decide)) (fun ad had => by
    injection had with had
    rw [← had]
    intro e
    have := hN.1.2.1 _ e
    exact Nat.lt_irrefl _ this) (by omega) (by rw [hs4]; show 1 ≤ 1000000000; omega))
  have Hs4 := Lib.hid hs4
  clear hs4 hN HC Hs3 hal
  go_wp2_with fail
  refine HOn.out.mono ?_
  rintro e w8 ⟨rfl, hN⟩
  obtain ⟨s5, hs5⟩ : ∃ s5, s5 = s4.on [0] := ⟨_, rfl⟩
  rw [← hs5] at hN
  rw [Hs4.out] at hs5
  have HRd := Lib.hid (read_at hN 3 (by rw [hs5]; show 3 < 4; omega) (by rw [hs5]; rfl) (by rw [hs5]; show 0 ≤ 1000000000; omega) (show s5.now 3 = A by rw [hs5]; exact awk_now A B))
  have Hco := Lib.hid (show s5.co = 3 by rw [hs5]; exact awk_co A B)
  clear hs5 hN HOn Hs4
  go_wp2_with fail
  refine HRd.out.mono ?_
  rintro e w9 ⟨G, rfl, _, hG, hN, _, _⟩
  have HSm := Lib.hid (same_is (w := w9) (ca := 256) (cb := 256) true (by simp) hG.1 ((bytes_blk HGa3.out.2 HAb.out.1 HAb.out.2).mods hN.2 (fun ad had => by injection had with had; rw [← had]; exact HnF.out.1)).1 (by omega) (by omega))
  have HN := Lib.hid hN
  clear hG hN HRd
  go_wp2_with fail
  refine HSm.out.mono ?_
  rintro e w10 ⟨rfl, n, rfl⟩
  have HN2 := Lib.hid (HN.out.then_below (nu_drewN (nu_refl w9) n))
  generalize w9.drewN n = w10 at *
  have HCo := Lib.hid (count_any HN2.out.1)
  rw [Hco.out] at HCo
  clear HN HSm
  go_wp2_with fail
  refine HCo.out.mono ?_
  rintro e w' ⟨rfl, rfl⟩
  have Hn := Lib.hid (HN2.out.2.to_below Hn3.out.size HFw.out)
  have hnn : Below w.heap.size w w10 := ⟨Hn.out.os.trans Hn3.out.os, Hn.out.tape.trans Hn3.out.tape, Hn.out.output.trans Hn3.out.output, Nat.le_trans Hn3.out.size Hn.out.size, fun k hk => (Hn.out.block k hk).trans (Hn3.out.block k hk)⟩
  clear HN2 HCo Hn
  go_wp2_with fail
  go_ret
  exact ⟨rfl, hnn⟩
end Go.Proofs.Ytjmghpoknlffiaa

namespace Go.Proofs.Ytjmghpoknlffiaa
open Go.ChangeShapes Go.WideShapes Go.ChangeAt Go.RowKit
set_option linter.unusedSimpArgs false

theorem torn_now (A B : List Nat) (v : Int) : (((((((Dv.new 1).put 0 A).spent.spent.flush).put 0 B).spent).crash).on [v]).now 0 = torn A B (fate [v] 0) := rfl
theorem fate_one (v : Int) : fate [v] 0 = (v % 257).toNat := rfl
theorem torn_take {A B : List Nat} {k : Nat} (hB : k ≤ B.length) : (torn A B k).take k = B.take k := by
  unfold torn
  exact List.take_left' (by rw [List.length_take]; omega)
theorem torn_drop {A B : List Nat} {k : Nat} (hB : k ≤ B.length) : (torn A B k).drop k = A.drop k := by
  unfold torn
  exact List.drop_left' (by rw [List.length_take]; omega)
set_option maxRecDepth 100000 in
set_option maxHeartbeats 16000000 in
theorem devTorn_walk (a b : Option Addr) (la ca lb cb : Nat) (xs ys : List Nat) (v : Int) (hv : -9223372036854775808 ≤ v ∧ v ≤ 9223372036854775807) (w : World) (hx : BytesIn w a la ca xs) (hy : BytesIn w b lb cb ys) (hla : la ≤ 9223372036854775807) (hlb : lb ≤ 9223372036854775807) :
    Calls Try.prog 3 #[.slice a la ca, .slice b lb cb, .int .i64 v] w fun e w' => e = .returned (.bool true) ∧ Below w.heap.size w w' := by
  have HNw := Lib.hid (devNew_any 1 (by omega) (by omega) w)
  obtain ⟨A, hA⟩ : ∃ A, A = fullL xs := ⟨_, rfl⟩
  have HAb := Lib.hid (show Bl A by rw [hA]; exact fullL_bl (fun x h => wf_u8_lt (hx.1.2.1 x h)))
  obtain ⟨B, hB⟩ : ∃ B, B = fullL ys := ⟨_, rfl⟩
  have HBb := Lib.hid (show Bl B by rw [hB]; exact fullL_bl (fun x h => wf_u8_lt (hy.1.2.1 x h)))
  have HX := Lib.hid hx
  have HY := Lib.hid hy
  have HAe := Lib.hid hA
  have HBe := Lib.hid hB
  have Hv := Lib.hid hv
  obtain ⟨K, hK⟩ : ∃ K : Nat, K = (v % 257).toNat := ⟨_, rfl⟩
  have hKi : (K : Int) = v % 257 := by rw [hK]; exact Int.toNat_of_nonneg (Int.emod_nonneg _ (by omega))
  have hK6 : K ≤ 256 := by omega
  have HKi := Lib.hid hKi
  have HKf := Lib.hid (show fate [v] 0 = K by rw [fate_one, hK])
  clear hA hB hx hy hv hK hKi
  go_enter Try.func3, Try.ntmps3
  go_wp2_with fail
  refine HNw.out.mono ?_
  rintro e w1 ⟨d, rfl, F, hR, hF, hb⟩
  have HR := Lib.hid hR
  have HF := Lib.hid hF
  have Hn1 := Lib.hid hb
  have HFa := Lib.hid (full_any a la ca xs w1 (HX.out.keep hb) hla)
  rw [← HAe.out] at HFa
  have HY1 := Lib.hid (HY.out.keep hb)
  clear hR hF hb HNw HX HY
  go_wp2_with fail
  refine HFa.out.mono ?_
  rintro e w2 ⟨Ga, rfl, hGa, hBa, hb⟩
  have HGa := Lib.hid (And.intro hGa hBa)
  have Hb2 := Lib.hid hb
  have HFb := Lib.hid (full_any b lb cb ys w2 (HY1.out.keep hb) hlb)
  rw [← HBe.out] at HFb
  clear hGa hBa hb HFa HY1
  go_wp2_with fail
  refine HFb.out.mono ?_
  rintro e w3 ⟨Gb, rfl, hGb, hBb, hb⟩
  have HGb := Lib.hid (And.intro (show w1.heap.size ≤ Gb from Nat.le_trans Hb2.out.size hGb) hBb)
  have HGa3 := Lib.hid (And.intro HGa.out.1 (HGa.out.2.below hb HGa.out.2.lt))
  have Hb3 := Lib.hid (nu_trans Hb2.out hb)
  have HnF := Lib.hid (show ¬ F Ga ∧ ¬ F Gb from ⟨fun h => by have := HR.out.2.1 _ h; have := HGa.out.1; omega, fun h => by have := HR.out.2.1 _ h; have := HGb.out.1; omega⟩)
  have HN0 := Lib.hid (DevNext.refl (HR.out.below Hb3.out))
  have Hn3 := Lib.hid (nu_trans Hn1.out Hb3.out)
  have HFw := Lib.hid HF.out
  clear hGb hBb hb HFb HGa HR Hb2 Hb3 HF Hn1 HAe HBe
  obtain ⟨s0, hs0⟩ : ∃ s0, s0 = Dv.new 1 := ⟨_, rfl⟩
  rw [← hs0] at HN0
  have HW := Lib.hid (write_at HN0.out 0 (by rw [hs0]; decide) (by rw [hs0]; rfl) (by rw [hs0]; rfl) HGa3.out.2 HAb.out HnF.out.1 (by rw [hs0]; decide) (by rw [hs0]; decide))
  have Hs0 := Lib.hid hs0
  clear hs0 HN0
  go_wp2_with fail
  refine HW.out.mono ?_
  rintro e w4 ⟨rfl, hN⟩
  obtain ⟨s1, hs1⟩ : ∃ s1, s1 = (s0.put 0 A).spent := ⟨_, rfl⟩
  rw [← hs1] at hN
  rw [Hs0.out] at hs1
  have HFl := Lib.hid (flush_at hN (by rw [hs1]; rfl) (by rw [hs1]; rfl) (by rw [hs1]; show 1 ≤ 1000000000; omega))
  have Hs1 := Lib.hid hs1
  clear hs1 hN HW Hs0
  go_wp2_with fail
  refine HFl.out.mono ?_
  rintro e w5 ⟨rfl, hN⟩
  obtain ⟨s2, hs2⟩ : ∃ s2, s2 = s1.spent.flush := ⟨_, rfl⟩
  rw [← hs2] at hN
  rw [Hs1.out] at hs2
  have HW := Lib.hid (write_at hN 0 (by rw [hs2]; show 0 < 1; omega) (by rw [hs2]; rfl) (by rw [hs2]; rfl) HGb.out.2 HBb.out HnF.out.2 (by rw [hs2]; show 0 ≤ 1000000000; omega) (by rw [hs2]; show 1 ≤ 1000000000; omega))
  have Hs2 := Lib.hid hs2
  clear hs2 hN HFl Hs1
  go_wp2_with fail
  refine HW.out.mono ?_
  rintro e w6 ⟨rfl, hN⟩
  obtain ⟨s3, hs3⟩ : ∃ s3, s3 = (s2.put 0 B).spent := ⟨_, rfl⟩
  rw [← hs3] at hN
  rw [Hs2.out] at hs3
  have HC := Lib.hid (crash_at hN)
  have Hs3 := Lib.hid hs3
  clear hs3 hN HW Hs2
  go_wp2_with fail
  refine HC.out.mono ?_
  rintro e w7 ⟨rfl, hN⟩
  obtain ⟨s4, hs4⟩ : ∃ s4, s4 = s3.crash := ⟨_, rfl⟩
  rw [← hs4] at hN
  rw [Hs3.out] at hs4
  have hr : s4.rdy 0 = 7 := by rw [hs4]; rfl
  have HRb := Lib.hid (readD_bad hN.1 0 (by rw [hr]; omega))
  have HWb := Lib.hid (writeD_bad hN.1 0 (some ⟨Ga, 0, none⟩) 256 256 (.inl (by rw [hr]; omega)))
  rw [hr] at HRb HWb
  have HFb := Lib.hid (flushD_off hN.1 (by rw [hs4]; rfl))
  have HSb := Lib.hid (spendOff hN.1 (by rw [hs4]; rfl))
  have hal := nu_alloc (nu_refl w7) (.cells #[.int .i64 v] 3)
  have HOn := Lib.hid (on_new hN hal (by rw [hs4]; rfl) 1 (nums_one w7 v Hv.out) (fun ad had => by
    injection had with had
    rw [← had]
    intro e
    have := hN.1.2.1 _ e
    exact Nat.lt_irrefl _ this) (by omega) (by rw [hs4]; show 1 ≤ 1000000000; omega))
  have Hs4 := Lib.hid hs4
  clear hs4 hN HC Hs3 hal hr
  go_wp2_with fail
  refine HRb.out.mono ?_
  rintro e w' ⟨rfl, rfl⟩
  go_wp2_with fail
  refine HWb.out.mono ?_
  rintro e w' ⟨rfl, rfl⟩
  go_wp2_with fail
  refine HFb.out.mono ?_
  rintro e w' ⟨rfl, rfl⟩
  go_wp2_with fail
  refine HSb.out.mono ?_
  rintro e w' ⟨rfl, rfl⟩
  clear HRb HWb HFb HSb
  go_wp2_with fail
  refine HOn.out.mono ?_
  rintro e w8 ⟨rfl, hN⟩
  obtain ⟨s5, hs5⟩ : ∃ s5, s5 = s4.on [v] := ⟨_, rfl⟩
  rw [← hs5] at hN
  rw [Hs4.out] at hs5
  obtain ⟨D, hD⟩ : ∃ D, D = torn A B K := ⟨_, rfl⟩
  have HRd := Lib.hid (read_at hN 0 (by rw [hs5]; show 0 < 1; omega) (by rw [hs5]; rfl) (by rw [hs5]; show 0 ≤ 1000000000; omega) (show s5.now 0 = D by rw [hs5, torn_now A B v, HKf.out, hD]))
  have HDt := Lib.hid (show D.take K = B.take K by rw [hD]; exact torn_take (by rw [HBb.out.1]; exact hK6))
  have HDd := Lib.hid (show D.drop K = A.drop K by rw [hD]; exact torn_drop (by rw [HBb.out.1]; exact hK6))
  clear hs5 hN HOn Hs4 hD
  go_wp2_with fail
  refine HRd.out.mono ?_
  rintro e w9 ⟨G, rfl, _, hG, hN, _, _⟩
  have HN := Lib.hid hN
  have HC := Lib.hid hG
  have HPk := Lib.hid (pick_any v 257 K w9 HKi.out (by omega) (by omega) Hv.out.1 Hv.out.2)
  clear hG hN HRd
  go_wp2_with fail
  refine HPk.out.mono ?_
  rintro e w' ⟨rfl, rfl⟩
  clear HPk
  have hKi6 : (K : Int) ≤ 256 := by omega
  by_cases hcn : 256 = K
  · subst hcn
    clear HKi HKf hKi6
    go_upto_region 12 with fail
    refine wp_region_held_drew (S := fun _ => True) (by kernel_rfl) (trivial) (fun hHeld => ?_)
    dsimp only [Array.replicate, List.replicate, List.size_toArray, List.length_cons, List.length_nil, Nat.reduceAdd] at hHeld ⊢
    have HN0 := Lib.hid (HN.out.then_below (nu_drew (nu_refl w9)))
    have HC0 := Lib.hid (HC.out.keep (nu_drew (nu_refl w9)))
    clear HN HC
    generalize w9.drew = u0 at *
    refine take_l (i := 0) (v := ?_) rfl (by kernel_rfl) (by kernel_rfl) (by kernel_rfl) (fun _ _ _ h => h) (Or.inl ⟨by rfl, ?_⟩) (by assumption) ?_
    case refine_2 => (intro _ _; go_simp; all_goals with_reducible rfl)
    simp only [Act.put, List.setIfInBounds_toArray, List.set_cons_zero, List.set_cons_succ]
    refine take_l (i := 1) (v := ?_) rfl (by kernel_rfl) (by kernel_rfl) (by kernel_rfl) (fun _ _ _ h => h) (Or.inl ⟨by rfl, ?_⟩) (by assumption) ?_
    case refine_2 => (intro _ _; go_simp; all_goals with_reducible rfl)
    simp only [Act.put, List.setIfInBounds_toArray, List.set_cons_zero, List.set_cons_succ]
    refine take_l (i := 2) (v := ?_) rfl (by kernel_rfl) (by kernel_rfl) (by kernel_rfl) (fun _ _ _ h => h) (Or.inl ⟨by rfl, ?_⟩) (by assumption) ?_
    case refine_2 => (intro _ _; go_simp; all_goals with_reducible rfl)
    simp only [Act.put, List.setIfInBounds_toArray, List.set_cons_zero, List.set_cons_succ]
    refine take_l (i := 3) (v := ?_) rfl (by kernel_rfl) (by kernel_rfl) (by kernel_rfl) (fun _ _ _ h => h) (Or.inl ⟨by rfl, ?_⟩) (by assumption) ?_
    case refine_2 => (intro _ _; go_simp; all_goals with_reducible rfl)
    simp only [Act.put, List.setIfInBounds_toArray, List.set_cons_zero, List.set_cons_succ]
    refine take_l (i := 4) (v := ?_) rfl (by kernel_rfl) (by kernel_rfl) (by kernel_rfl) (fun _ _ _ h => h) (Or.inl ⟨by rfl, ?_⟩) (by assumption) ?_
    case refine_2 => (intro _ _; go_simp; all_goals with_reducible rfl)
    simp only [Act.put, List.setIfInBounds_toArray, List.set_cons_zero, List.set_cons_succ]
    refine take_l (i := 5) (v := ?_) rfl (by kernel_rfl) (by kernel_rfl) (by kernel_rfl) (fun _ _ _ h => h) (Or.inl ⟨by rfl, ?_⟩) (by assumption) ?_
    case refine_2 => (intro _ _; go_simp; all_goals with_reducible rfl)
    simp only [Act.put, List.setIfInBounds_toArray, List.set_cons_zero, List.set_cons_succ]
    refine take_l (i := 6) (v := ?_) rfl (by kernel_rfl) (by kernel_rfl) (by kernel_rfl) (fun _ _ _ h => h) (Or.inl ⟨by rfl, ?_⟩) (by assumption) ?_
    case refine_2 => (intro _ _; go_simp; all_goals with_reducible rfl)
    simp only [Act.put, List.setIfInBounds_toArray, List.set_cons_zero, List.set_cons_succ]
    refine take_l (i := 7) (v := ?_) rfl (by kernel_rfl) (by kernel_rfl) (by kernel_rfl) (fun _ _ _ h => h) (Or.inl ⟨by rfl, ?_⟩) (by assumption) ?_
    case refine_2 => (intro _ _; go_simp; all_goals with_reducible rfl)
    simp only [Act.put, List.setIfInBounds_toArray, List.set_cons_zero, List.set_cons_succ]
    refine take_l (i := 8) (v := ?_) rfl (by kernel_rfl) (by kernel_rfl) (by kernel_rfl) (fun _ _ _ h => h) (Or.inl ⟨by rfl, ?_⟩) (by assumption) ?_
    case refine_2 => (intro _ _; go_simp; all_goals with_reducible rfl)
    simp only [Act.put, List.setIfInBounds_toArray, List.set_cons_zero, List.set_cons_succ]
    refine take_l (i := 9) (v := ?_) rfl (by kernel_rfl) (by kernel_rfl) (by kernel_rfl) (fun _ _ _ h => h) (Or.inl ⟨by rfl, ?_⟩) (by assumption) ?_
    case refine_2 => (intro _ _; go_simp; all_goals with_reducible rfl)
    simp only [Act.put, List.setIfInBounds_toArray, List.set_cons_zero, List.set_cons_succ]
    refine take_l (i := 10) (v := ?_) rfl (by kernel_rfl) (by kernel_rfl) (by kernel_rfl) (fun _ _ _ h => h) (Or.inl ⟨by rfl, ?_⟩) (by assumption) ?_
    case refine_2 => (intro _ _; go_simp; all_goals with_reducible rfl)
    simp only [Act.put, List.setIfInBounds_toArray, List.set_cons_zero, List.set_cons_succ]
    refine take_l (i := 11) (v := ?_) rfl (by kernel_rfl) (by kernel_rfl) (by kernel_rfl) (fun _ _ _ h => h) (Or.inl ⟨by rfl, ?_⟩) (by assumption) ?_
    case refine_2 => (intro _ _; go_simp; all_goals with_reducible rfl)
    simp only [Act.put, List.setIfInBounds_toArray, List.set_cons_zero, List.set_cons_succ]
    refine take_l (i := 12) (v := ?_) rfl (by kernel_rfl) (by kernel_rfl) (by kernel_rfl) (fun _ _ _ h => h) (Or.inl ⟨by rfl, ?_⟩) (by assumption) ?_
    case refine_2 => (intro _ _; go_simp; all_goals with_reducible rfl)
    simp only [Act.put, List.setIfInBounds_toArray, List.set_cons_zero, List.set_cons_succ]
    refine take_l (i := 13) (v := ?_) rfl (by kernel_rfl) (by kernel_rfl) (by kernel_rfl) (fun _ _ _ h => h) (Or.inl ⟨by rfl, ?_⟩) (by assumption) ?_
    case refine_2 => (intro _ _; go_simp; all_goals with_reducible rfl)
    simp only [Act.put, List.setIfInBounds_toArray, List.set_cons_zero, List.set_cons_succ]
    clear hHeld
    refine wpAnyH_ready (rs := [14]) (by kernel_rfl) (by simp) ?_
    refine cons_l rfl (fun KC hK => ?_) AllReadyH.nil
    go_simp
    go_at_call 19
    refine (same_is true (decide_eq_true HDt.out) (HC0.out.first (n := 256) (by omega)).1 (((bytes_blk HGb.out.2 HBb.out.1 HBb.out.2).mods HN0.out.2 (fun ad had => by injection had with had; rw [← had]; exact HnF.out.2)).first (n := 256) (by omega)).1 (by omega) (by omega)).mono ?_
    rintro e u1 ⟨rfl, nn, rfl⟩
    have hd := nu_drewN (nu_refl u0) nn
    have HN1 := Lib.hid (HN0.out.then_below hd)
    have HC1 := Lib.hid (HC0.out.keep hd)
    clear hd HN0 HC0
    generalize u0.drewN nn = u1 at *
    go_wp2_with fail
    refine hK.out _ _ trivial (fun hHeld => ?_)
    clear hK KC
    simp only [Act.put, List.setIfInBounds_toArray, List.set_cons_zero, List.set_cons_succ]
    refine take_l (i := 15) (v := ?_) rfl (by kernel_rfl) (by kernel_rfl) (by kernel_rfl) (fun _ _ _ h => h) (Or.inl ⟨by rfl, ?_⟩) (by assumption) ?_
    case refine_2 => (intro _ _; go_simp; all_goals with_reducible rfl)
    simp only [Act.put, List.setIfInBounds_toArray, List.set_cons_zero, List.set_cons_succ]
    refine take_l (i := 16) (v := ?_) rfl (by kernel_rfl) (by kernel_rfl) (by kernel_rfl) (fun _ _ _ h => h) (Or.inl ⟨by rfl, ?_⟩) (by assumption) ?_
    case refine_2 => (intro _ _; go_simp; all_goals with_reducible rfl)
    simp only [Act.put, List.setIfInBounds_toArray, List.set_cons_zero, List.set_cons_succ]
    refine take_l (i := 17) (v := ?_) rfl (by kernel_rfl) (by kernel_rfl) (by kernel_rfl) (fun _ _ _ h => h) (Or.inl ⟨by rfl, ?_⟩) (by assumption) ?_
    case refine_2 => (intro _ _; go_simp; all_goals with_reducible rfl)
    simp only [Act.put, List.setIfInBounds_toArray, List.set_cons_zero, List.set_cons_succ]
    refine take_l (i := 18) (v := ?_) rfl (by kernel_rfl) (by kernel_rfl) (by kernel_rfl) (fun _ _ _ h => h) (Or.inl ⟨by rfl, ?_⟩) (by assumption) ?_
    case refine_2 => (intro _ _; go_simp; all_goals with_reducible rfl)
    simp only [Act.put, List.setIfInBounds_toArray, List.set_cons_zero, List.set_cons_succ]
    refine take_l (i := 19) (v := ?_) rfl (by kernel_rfl) (by kernel_rfl) (by kernel_rfl) (fun _ _ _ h => h) (Or.inl ⟨by rfl, ?_⟩) (by assumption) ?_
    case refine_2 => (intro _ _; go_simp; all_goals with_reducible rfl)
    simp only [Act.put, List.setIfInBounds_toArray, List.set_cons_zero, List.set_cons_succ]
    refine take_l (i := 20) (v := ?_) rfl (by kernel_rfl) (by kernel_rfl) (by kernel_rfl) (fun _ _ _ h => h) (Or.inl ⟨by rfl, ?_⟩) (by assumption) ?_
    case refine_2 => (intro _ _; go_simp; all_goals with_reducible rfl)
    simp only [Act.put, List.setIfInBounds_toArray, List.set_cons_zero, List.set_cons_succ]
    refine take_l (i := 21) (v := ?_) rfl (by kernel_rfl) (by kernel_rfl) (by kernel_rfl) (fun _ _ _ h => h) (Or.inl ⟨by rfl, ?_⟩) (by assumption) ?_
    case refine_2 => (intro _ _; go_simp; all_goals with_reducible rfl)
    simp only [Act.put, List.setIfInBounds_toArray, List.set_cons_zero, List.set_cons_succ]
    refine take_l (i := 22) (v := ?_) rfl (by kernel_rfl) (by kernel_rfl) (by kernel_rfl) (fun _ _ _ h => h) (Or.inl ⟨by rfl, ?_⟩) (by assumption) ?_
    case refine_2 => (intro _ _; go_simp; all_goals with_reducible rfl)
    simp only [Act.put, List.setIfInBounds_toArray, List.set_cons_zero, List.set_cons_succ]
    clear hHeld
    have hl1 := HC1.out.left (n := 256) (by omega) (by omega)
    rw [show leftAt (some ⟨G, 0, none⟩) 256 256 = some ⟨G, 0, none⟩ by simp [leftAt]] at hl1
    have hl2 := ((bytes_blk HGa3.out.2 HAb.out.1 HAb.out.2).mods HN1.out.2 (fun ad had => by injection had with had; rw [← had]; exact HnF.out.1)).left (n := 256) (by omega) (by omega)
    rw [show leftAt (some ⟨Ga, 0, none⟩) 256 256 = some ⟨Ga, 0, none⟩ by simp [leftAt]] at hl2
    have HL1 := Lib.hid hl1.1
    have HL2 := Lib.hid hl2.1
    clear hl1 hl2
    refine wpAnyH_ready (rs := [23]) (by kernel_rfl) (by simp) ?_
    refine cons_l rfl (fun KC hK => ?_) AllReadyH.nil
    go_simp
    go_at_call 19
    refine (same_is true (decide_eq_true HDd.out) HL1.out HL2.out (by omega) (by omega)).mono ?_
    rintro e u2 ⟨rfl, nn, rfl⟩
    have hd := nu_drewN (nu_refl u1) nn
    have HN2 := Lib.hid (HN1.out.then_below hd)
    have HC2 := Lib.hid (HC1.out.keep hd)
    clear hd HN1 HC1
    generalize u1.drewN nn = u2 at *
    go_wp2_with fail
    refine hK.out _ _ trivial (fun hHeld => ?_)
    clear hK KC
    simp only [Act.put, List.setIfInBounds_toArray, List.set_cons_zero, List.set_cons_succ]
    refine take_l (i := 24) (v := ?_) rfl (by kernel_rfl) (by kernel_rfl) (by kernel_rfl) (fun _ _ _ h => h) (Or.inl ⟨by rfl, ?_⟩) (by assumption) ?_
    case refine_2 => (intro _ _; go_simp; all_goals with_reducible rfl)
    simp only [Act.put, List.setIfInBounds_toArray, List.set_cons_zero, List.set_cons_succ]
    refine take_l (i := 25) (v := ?_) rfl (by kernel_rfl) (by kernel_rfl) (by kernel_rfl) (fun _ _ _ h => h) (Or.inl ⟨by rfl, ?_⟩) (by assumption) ?_
    case refine_2 => (intro _ _; go_simp; all_goals with_reducible rfl)
    simp only [Act.put, List.setIfInBounds_toArray, List.set_cons_zero, List.set_cons_succ]
    clear hHeld
    refine wpAnyH_ready (rs := [26]) (by kernel_rfl) (by simp) ?_
    refine cons_l rfl (fun KC hK => ?_) AllReadyH.nil
    go_simp
    go_at_call 20
    refine (awake10 u2).mono ?_
    rintro e u3 ⟨rfl, hb⟩
    have HN3 := Lib.hid (HN2.out.then_below hb)
    clear hb HN2 HC2 HL1 HL2
    go_wp2_with fail
    refine hK.out _ _ trivial (fun hHeld => ?_)
    clear hK KC
    simp only [Act.put, List.setIfInBounds_toArray, List.set_cons_zero, List.set_cons_succ]
    refine take_l (i := 27) (v := ?_) rfl (by kernel_rfl) (by kernel_rfl) (by kernel_rfl) (fun _ _ _ h => h) (Or.inl ⟨by rfl, ?_⟩) (by assumption) ?_
    case refine_2 => (intro _ _; go_simp; all_goals with_reducible rfl)
    simp only [Act.put, List.setIfInBounds_toArray, List.set_cons_zero, List.set_cons_succ]
    refine take_l (i := 28) (v := ?_) rfl (by kernel_rfl) (by kernel_rfl) (by kernel_rfl) (fun _ _ _ h => h) (Or.inl ⟨by rfl, ?_⟩) (by assumption) ?_
    case refine_2 => (intro _ _; go_simp; all_goals with_reducible rfl)
    simp only [Act.put, List.setIfInBounds_toArray, List.set_cons_zero, List.set_cons_succ]
    refine wpAnyH_done (by kernel_rfl) ?_ _
    have Hn := Lib.hid (HN3.out.2.to_below Hn3.out.size HFw.out)
    have hnn : Below w.heap.size w u3 := ⟨Hn.out.os.trans Hn3.out.os, Hn.out.tape.trans Hn3.out.tape, Hn.out.output.trans Hn3.out.output, Nat.le_trans Hn3.out.size Hn.out.size, fun k hk => (Hn.out.block k hk).trans (Hn3.out.block k hk)⟩
    clear HN3 Hn hHeld
    go_wp2_with fail
    go_ret
    exact ⟨rfl, hnn⟩
  · go_upto_region 12 with fail
    refine wp_region_held_drew (S := fun _ => True) (by kernel_rfl) (trivial) (fun hHeld => ?_)
    dsimp only [Array.replicate, List.replicate, List.size_toArray, List.length_cons, List.length_nil, Nat.reduceAdd] at hHeld ⊢
    have HN0 := Lib.hid (HN.out.then_below (nu_drew (nu_refl w9)))
    have HC0 := Lib.hid (HC.out.keep (nu_drew (nu_refl w9)))
    clear HN HC
    generalize w9.drew = u0 at *
    refine take_l (i := 0) (v := ?_) rfl (by kernel_rfl) (by kernel_rfl) (by kernel_rfl) (fun _ _ _ h => h) (Or.inl ⟨by rfl, ?_⟩) (by assumption) ?_
    case refine_2 => (intro _ _; go_simp; all_goals with_reducible rfl)
    simp only [Act.put, List.setIfInBounds_toArray, List.set_cons_zero, List.set_cons_succ]
    refine take_l (i := 1) (v := ?_) rfl (by kernel_rfl) (by kernel_rfl) (by kernel_rfl) (fun _ _ _ h => h) (Or.inl ⟨by rfl, ?_⟩) (by assumption) ?_
    case refine_2 => (intro _ _; go_simp; all_goals with_reducible rfl)
    simp only [Act.put, List.setIfInBounds_toArray, List.set_cons_zero, List.set_cons_succ]
    refine take_l (i := 2) (v := ?_) rfl (by kernel_rfl) (by kernel_rfl) (by kernel_rfl) (fun _ _ _ h => h) (Or.inl ⟨by rfl, ?_⟩) (by assumption) ?_
    case refine_2 => (intro _ _; go_simp; all_goals with_reducible rfl)
    simp only [Act.put, List.setIfInBounds_toArray, List.set_cons_zero, List.set_cons_succ]
    refine take_l (i := 3) (v := ?_) rfl (by kernel_rfl) (by kernel_rfl) (by kernel_rfl) (fun _ _ _ h => h) (Or.inl ⟨by rfl, ?_⟩) (by assumption) ?_
    case refine_2 => (intro _ _; go_simp; all_goals with_reducible rfl)
    simp only [Act.put, List.setIfInBounds_toArray, List.set_cons_zero, List.set_cons_succ]
    refine take_l (i := 4) (v := ?_) rfl (by kernel_rfl) (by kernel_rfl) (by kernel_rfl) (fun _ _ _ h => h) (Or.inl ⟨by rfl, ?_⟩) (by assumption) ?_
    case refine_2 => (intro _ _; go_simp; all_goals with_reducible rfl)
    simp only [Act.put, List.setIfInBounds_toArray, List.set_cons_zero, List.set_cons_succ]
    refine take_l (i := 5) (v := ?_) rfl (by kernel_rfl) (by kernel_rfl) (by kernel_rfl) (fun _ _ _ h => h) (Or.inl ⟨by rfl, ?_⟩) (by assumption) ?_
    case refine_2 => (intro _ _; go_simp; all_goals with_reducible rfl)
    simp only [Act.put, List.setIfInBounds_toArray, List.set_cons_zero, List.set_cons_succ]
    refine take_l (i := 6) (v := ?_) rfl (by kernel_rfl) (by kernel_rfl) (by kernel_rfl) (fun _ _ _ h => h) (Or.inl ⟨by rfl, ?_⟩) (by assumption) ?_
    case refine_2 => (intro _ _; go_simp; all_goals with_reducible rfl)
    simp only [Act.put, List.setIfInBounds_toArray, List.set_cons_zero, List.set_cons_succ]
    refine take_l (i := 7) (v := ?_) rfl (by kernel_rfl) (by kernel_rfl) (by kernel_rfl) (fun _ _ _ h => h) (Or.inl ⟨by rfl, ?_⟩) (by assumption) ?_
    case refine_2 => (intro _ _; go_simp; all_goals with_reducible rfl)
    simp only [Act.put, List.setIfInBounds_toArray, List.set_cons_zero, List.set_cons_succ]
    refine take_l (i := 8) (v := ?_) rfl (by kernel_rfl) (by kernel_rfl) (by kernel_rfl) (fun _ _ _ h => h) (Or.inl ⟨by rfl, ?_⟩) (by assumption) ?_
    case refine_2 => (intro _ _; go_simp; all_goals with_reducible rfl)
    simp only [Act.put, List.setIfInBounds_toArray, List.set_cons_zero, List.set_cons_succ]
    refine take_l (i := 9) (v := ?_) rfl (by kernel_rfl) (by kernel_rfl) (by kernel_rfl) (fun _ _ _ h => h) (Or.inl ⟨by rfl, ?_⟩) (by assumption) ?_
    case refine_2 => (intro _ _; go_simp; all_goals with_reducible rfl)
    simp only [Act.put, List.setIfInBounds_toArray, List.set_cons_zero, List.set_cons_succ]
    refine take_l (i := 10) (v := ?_) rfl (by kernel_rfl) (by kernel_rfl) (by kernel_rfl) (fun _ _ _ h => h) (Or.inl ⟨by rfl, ?_⟩) (by assumption) ?_
    case refine_2 => (intro _ _; go_simp; all_goals with_reducible rfl)
    simp only [Act.put, List.setIfInBounds_toArray, List.set_cons_zero, List.set_cons_succ]
    refine take_l (i := 11) (v := ?_) rfl (by kernel_rfl) (by kernel_rfl) (by kernel_rfl) (fun _ _ _ h => h) (Or.inl ⟨by rfl, ?_⟩) (by assumption) ?_
    case refine_2 => (intro _ _; go_simp; all_goals with_reducible rfl)
    simp only [Act.put, List.setIfInBounds_toArray, List.set_cons_zero, List.set_cons_succ]
    refine take_l (i := 12) (v := ?_) rfl (by kernel_rfl) (by kernel_rfl) (by kernel_rfl) (fun _ _ _ h => h) (Or.inl ⟨by rfl, ?_⟩) (by assumption) ?_
    case refine_2 => (intro _ _; go_simp; all_goals with_reducible rfl)
    simp only [Act.put, List.setIfInBounds_toArray, List.set_cons_zero, List.set_cons_succ]
    refine take_l (i := 13) (v := ?_) rfl (by kernel_rfl) (by kernel_rfl) (by kernel_rfl) (fun _ _ _ h => h) (Or.inl ⟨by rfl, ?_⟩) (by assumption) ?_
    case refine_2 => (intro _ _; go_simp; all_goals with_reducible rfl)
    simp only [Act.put, List.setIfInBounds_toArray, List.set_cons_zero, List.set_cons_succ]
    clear hHeld
    refine wpAnyH_ready (rs := [14]) (by kernel_rfl) (by simp) ?_
    refine cons_l rfl (fun KC hK => ?_) AllReadyH.nil
    go_simp
    go_at_call 19
    refine (same_is true (decide_eq_true HDt.out) (HC0.out.first (n := K) (by omega)).1 (((bytes_blk HGb.out.2 HBb.out.1 HBb.out.2).mods HN0.out.2 (fun ad had => by injection had with had; rw [← had]; exact HnF.out.2)).first (n := K) (by omega)).1 (by omega) (by omega)).mono ?_
    rintro e u1 ⟨rfl, nn, rfl⟩
    have hd := nu_drewN (nu_refl u0) nn
    have HN1 := Lib.hid (HN0.out.then_below hd)
    have HC1 := Lib.hid (HC0.out.keep hd)
    clear hd HN0 HC0
    generalize u0.drewN nn = u1 at *
    go_wp2_with fail
    refine hK.out _ _ trivial (fun hHeld => ?_)
    clear hK KC
    simp only [Act.put, List.setIfInBounds_toArray, List.set_cons_zero, List.set_cons_succ]
    refine take_l (i := 15) (v := ?_) rfl (by kernel_rfl) (by kernel_rfl) (by kernel_rfl) (fun _ _ _ h => h) (Or.inl ⟨by rfl, ?_⟩) (by assumption) ?_
    case refine_2 => (intro _ _; go_simp; all_goals with_reducible rfl)
    simp only [Act.put, List.setIfInBounds_toArray, List.set_cons_zero, List.set_cons_succ]
    refine take_l (i := 16) (v := ?_) rfl (by kernel_rfl) (by kernel_rfl) (by kernel_rfl) (fun _ _ _ h => h) (Or.inl ⟨by rfl, ?_⟩) (by assumption) ?_
    case refine_2 => (intro _ _; go_simp; all_goals with_reducible rfl)
    simp only [Act.put, List.setIfInBounds_toArray, List.set_cons_zero, List.set_cons_succ]
    refine take_l (i := 17) (v := ?_) rfl (by kernel_rfl) (by kernel_rfl) (by kernel_rfl) (fun _ _ _ h => h) (Or.inl ⟨by rfl, ?_⟩) (by assumption) ?_
    case refine_2 => (intro _ _; go_simp; all_goals with_reducible rfl)
    simp only [Act.put, List.setIfInBounds_toArray, List.set_cons_zero, List.set_cons_succ]
    refine take_l (i := 18) (v := ?_) rfl (by kernel_rfl) (by kernel_rfl) (by kernel_rfl) (fun _ _ _ h => h) (Or.inl ⟨by rfl, ?_⟩) (by assumption) ?_
    case refine_2 => (intro _ _; go_simp; all_goals with_reducible rfl)
    simp only [Act.put, List.setIfInBounds_toArray, List.set_cons_zero, List.set_cons_succ]
    refine take_l (i := 19) (v := ?_) rfl (by kernel_rfl) (by kernel_rfl) (by kernel_rfl) (fun _ _ _ h => h) (Or.inl ⟨by rfl, ?_⟩) (by assumption) ?_
    case refine_2 => (intro _ _; go_simp; all_goals with_reducible rfl)
    simp only [Act.put, List.setIfInBounds_toArray, List.set_cons_zero, List.set_cons_succ]
    refine take_l (i := 20) (v := ?_) rfl (by kernel_rfl) (by kernel_rfl) (by kernel_rfl) (fun _ _ _ h => h) (Or.inl ⟨by rfl, ?_⟩) (by assumption) ?_
    case refine_2 => (intro _ _; go_simp; all_goals with_reducible rfl)
    simp only [Act.put, List.setIfInBounds_toArray, List.set_cons_zero, List.set_cons_succ]
    refine take_l (i := 21) (v := ?_) rfl (by kernel_rfl) (by kernel_rfl) (by kernel_rfl) (fun _ _ _ h => h) (Or.inl ⟨by rfl, ?_⟩) (by assumption) ?_
    case refine_2 => (intro _ _; go_simp; all_goals with_reducible rfl)
    simp only [Act.put, List.setIfInBounds_toArray, List.set_cons_zero, List.set_cons_succ]
    refine take_l (i := 22) (v := ?_) rfl (by kernel_rfl) (by kernel_rfl) (by kernel_rfl) (fun _ _ _ h => h) (Or.inl ⟨by rfl, ?_⟩) (by assumption) ?_
    case refine_2 => (intro _ _; go_simp; all_goals with_reducible rfl)
    simp only [Act.put, List.setIfInBounds_toArray, List.set_cons_zero, List.set_cons_succ]
    clear hHeld
    have hl1 := HC1.out.left (n := K) (by omega) (by omega)
    rw [show leftAt (some ⟨G, 0, none⟩) 256 K = some ⟨G, K, none⟩ by simp [leftAt, hcn, Go.WideShapes.add_plain]] at hl1
    have hl2 := ((bytes_blk HGa3.out.2 HAb.out.1 HAb.out.2).mods HN1.out.2 (fun ad had => by injection had with had; rw [← had]; exact HnF.out.1)).left (n := K) (by omega) (by omega)
    rw [show leftAt (some ⟨Ga, 0, none⟩) 256 K = some ⟨Ga, K, none⟩ by simp [leftAt, hcn, Go.WideShapes.add_plain]] at hl2
    have HL1 := Lib.hid hl1.1
    have HL2 := Lib.hid hl2.1
    clear hl1 hl2
    refine wpAnyH_ready (rs := [23]) (by kernel_rfl) (by simp) ?_
    refine cons_l rfl (fun KC hK => ?_) AllReadyH.nil
    go_simp
    go_at_call 19
    refine (same_is true (decide_eq_true HDd.out) HL1.out HL2.out (by omega) (by omega)).mono ?_
    rintro e u2 ⟨rfl, nn, rfl⟩
    have hd := nu_drewN (nu_refl u1) nn
    have HN2 := Lib.hid (HN1.out.then_below hd)
    have HC2 := Lib.hid (HC1.out.keep hd)
    clear hd HN1 HC1
    generalize u1.drewN nn = u2 at *
    go_wp2_with fail
    refine hK.out _ _ trivial (fun hHeld => ?_)
    clear hK KC
    simp only [Act.put, List.setIfInBounds_toArray, List.set_cons_zero, List.set_cons_succ]
    refine take_l (i := 24) (v := ?_) rfl (by kernel_rfl) (by kernel_rfl) (by kernel_rfl) (fun _ _ _ h => h) (Or.inl ⟨by rfl, ?_⟩) (by assumption) ?_
    case refine_2 => (intro _ _; go_simp; all_goals with_reducible rfl)
    simp only [Act.put, List.setIfInBounds_toArray, List.set_cons_zero, List.set_cons_succ]
    refine take_l (i := 25) (v := ?_) rfl (by kernel_rfl) (by kernel_rfl) (by kernel_rfl) (fun _ _ _ h => h) (Or.inl ⟨by rfl, ?_⟩) (by assumption) ?_
    case refine_2 => (intro _ _; go_simp; all_goals with_reducible rfl)
    simp only [Act.put, List.setIfInBounds_toArray, List.set_cons_zero, List.set_cons_succ]
    clear hHeld
    refine wpAnyH_ready (rs := [26]) (by kernel_rfl) (by simp) ?_
    refine cons_l rfl (fun KC hK => ?_) AllReadyH.nil
    go_simp
    go_at_call 20
    refine (awake10 u2).mono ?_
    rintro e u3 ⟨rfl, hb⟩
    have HN3 := Lib.hid (HN2.out.then_below hb)
    clear hb HN2 HC2 HL1 HL2
    go_wp2_with fail
    refine hK.out _ _ trivial (fun hHeld => ?_)
    clear hK KC
    simp only [Act.put, List.setIfInBounds_toArray, List.set_cons_zero, List.set_cons_succ]
    refine take_l (i := 27) (v := ?_) rfl (by kernel_rfl) (by kernel_rfl) (by kernel_rfl) (fun _ _ _ h => h) (Or.inl ⟨by rfl, ?_⟩) (by assumption) ?_
    case refine_2 => (intro _ _; go_simp; all_goals with_reducible rfl)
    simp only [Act.put, List.setIfInBounds_toArray, List.set_cons_zero, List.set_cons_succ]
    refine take_l (i := 28) (v := ?_) rfl (by kernel_rfl) (by kernel_rfl) (by kernel_rfl) (fun _ _ _ h => h) (Or.inl ⟨by rfl, ?_⟩) (by assumption) ?_
    case refine_2 => (intro _ _; go_simp; all_goals with_reducible rfl)
    simp only [Act.put, List.setIfInBounds_toArray, List.set_cons_zero, List.set_cons_succ]
    refine wpAnyH_done (by kernel_rfl) ?_ _
    have Hn := Lib.hid (HN3.out.2.to_below Hn3.out.size HFw.out)
    have hnn : Below w.heap.size w u3 := ⟨Hn.out.os.trans Hn3.out.os, Hn.out.tape.trans Hn3.out.tape, Hn.out.output.trans Hn3.out.output, Nat.le_trans Hn3.out.size Hn.out.size, fun k hk => (Hn.out.block k hk).trans (Hn3.out.block k hk)⟩
    clear HN3 Hn hHeld
    go_wp2_with fail
    go_ret
    exact ⟨rfl, hnn⟩
end Go.Proofs.Ytjmghpoknlffiaa
