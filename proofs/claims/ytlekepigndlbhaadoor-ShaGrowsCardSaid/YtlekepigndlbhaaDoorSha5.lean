/-
  The walk of sha.Sum.Write.
-/
import Derived.Test.YtlekepigndlbhaaDoorSha4
import Derived.Test.YtlekepigndlbhaaDoorStep
namespace Go.Proofs.YtlekepigndlbhaaDoor
open Go.ChangeShapes Go.WideShapes Go.ChangeAt Go.RowKit

def sliceLen : Value → Nat
  | .slice _ n _ => n
  | _ => 0

set_option maxRecDepth 100000 in
set_option maxHeartbeats 4000000 in
theorem write_any {w : World} {base g : Nat} {xs : List Nat} {m : Nat} {rv : Value} (h : SumIs w base g xs m rv) (hT : TabIn w) (h0 : 0 < base) (hbs : base ≤ w.heap.size) (hg0 : 0 < g) (a : Option Addr) (len cap : Nat) (ys : List Nat)
    (hy : BytesIn w a len cap ys) (hlc : len ≤ cap) (hcm : cap ≤ maxLen) (hmm : m + len < 9223372036854775808) (hne : 0 < len → ∀ ad, a = some ad → ad.block ≠ g ∧ rv.ownBlock ≠ some ad.block) :
    Calls Tryd.prog 22 #[.pointer (some ⟨g, 0, none⟩), .slice a len cap] w fun e w' => e = .returned (.tuple #[]) ∧
      ∃ rv', SumIs w' base g (xs ++ ys) (m + len) rv' ∧ Turned g rv.ownBlock w w' ∧ ∀ j, rv'.ownBlock = some j → rv.ownBlock = some j ∨ w.heap.size ≤ j := by
  obtain ⟨i0, hi, hz0, hz1, hz2⟩ := info_parts info_u8
  have Hi := Lib.hid hi
  have Hz0 := Lib.hid hz0
  have Hz1 := Lib.hid hz1
  have Hz2 := Lib.hid hz2
  obtain ⟨hS, hO⟩ := h
  have HO := Lib.hid hO
  have HT := Lib.hid hT
  have Hy := Lib.hid hy
  have Hne := Lib.hid hne
  have hgl := Blk.lt hS
  have c9 : w.cell? ⟨g, 9, none⟩ = some (.int .u64 m) := hS.at 9 _ rfl
  have f9 := hS.free 9
  have hlen : (len : Int) < 9223372036854775808 := by omega
  have HS1 := Lib.hid (show SumAt (w.setCell ⟨g, 9, none⟩ (.int .u64 ((m + len : Nat) : Int))) g (mid xs) rv (m + len) from by rw [SumAt, ← sum_put9 _ _ m]; exact hS.put 9 _)
  have hg1 := gb_set (gb_refl w (some g)) (p := ⟨g, 9, none⟩) (.inl rfl) (.int .u64 ((m + len : Nat) : Int))
  have Hap := Lib.hid (own_apart hO hS)
  have HO1 := Lib.hid (show OwnB (w.setCell ⟨g, 9, none⟩ (.int .u64 ((m + len : Nat) : Int))) base 5 rv (lst xs) from own_grown hO hg1 Hap.out)
  have HT1 := Lib.hid (Turned.of_g (ob := rv.ownBlock) hg1)
  have e9 : ((m + len : Nat) : Int) = (m : Int) + (len : Int) := by omega
  rw [e9] at HS1 HO1 HT1
  have hy0 := hy.1.1
  have Hob := Lib.hid (fun j hj => (own_low hO j hj).1)
  clear hS hO hT hy hne hi hz0 hz1 hz2 hg1 e9
  have w9 : IntKind.u64.wrap ((m : Int) + (len : Int)) = (m : Int) + (len : Int) := by rw [IntKind.wrap_u64]; omega
  have w8 : IntKind.u64.wrap (len : Int) = (len : Int) := by rw [IntKind.wrap_u64]; omega
  go_enter Tryd.func22, Tryd.ntmps22
  go_wp2_with fail
  generalize w.setCell ⟨g, 9, none⟩ (.int .u64 ((m : Int) + (len : Int))) = w1 at *
  go_loopw [1] (fun p wr => ∃ (d : Nat) (x : Option Addr) (rv' : Value), d ≤ len ∧ p = .slice x (len - d : Nat) (cap - d : Nat) ∧ BytesIn w x (len - d) (cap - d) (ys.drop d) ∧ (∀ ad, x = some ad → ∃ ad', a = some ad' ∧ ad.block = ad'.block) ∧
    SumIs wr base g (xs ++ ys.take d) (m + len) rv' ∧ Turned g rv.ownBlock w wr ∧ (∀ j, rv'.ownBlock = some j → rv.ownBlock = some j ∨ w.heap.size ≤ j)) (fun p _ => sliceLen p)
  case atStart => exact ⟨0, a, rv, by omega, rfl, Hy.out, fun ad h => ⟨ad, h, rfl⟩, by simpa using ⟨HS1.out, HO1.out⟩, HT1.out, fun j h => .inl h⟩
  case round =>
    clear HS1 HO1 HT1 HO
    obtain ⟨d, x, rv', hd, rfl, hx, hxa, ⟨hS, hO⟩, hTn, hnew⟩ := hrel
    obtain ⟨q, hq⟩ : ∃ q, q = len - d := ⟨_, rfl⟩
    obtain ⟨c, hc⟩ : ∃ c, c = cap - d := ⟨_, rfl⟩
    rw [← hq, ← hc] at hx ⊢
    have hqc : q ≤ c := by omega
    have hcm2 : c ≤ maxLen := by omega
    by_cases hlt : 0 < q
    · have hqi : (0 : Int) < (q : Int) := by omega
      obtain ⟨xb, xo, rfl, _, _⟩ := hx.1.2.2 hlt
      obtain ⟨X, hX⟩ : ∃ X, X = xs ++ ys.take d := ⟨_, rfl⟩
      rw [← hX] at hS hO
      have hXl := lst_len X
      obtain ⟨ra, rc, hrv, hrc, hrcm, hrb⟩ := hO.reads
      obtain ⟨r, hr⟩ : ∃ r, r = (lst X).length := ⟨_, rfl⟩
      rw [← hr] at hrv hrc hrb hXl
      subst hrv
      have hr64 : r < 64 := by omega
      obtain ⟨kk, hkk, hkq, hk0, hk64⟩ : ∃ kk : Nat, min (64 - (r : Int)) (q : Int) = (kk : Int) ∧ kk ≤ q ∧ 0 < kk ∧ (r + kk < 64 ∧ kk = q ∨ r + kk = 64) := by
        rcases Nat.lt_or_ge (64 - r) q with h | h
        · exact ⟨64 - r, by omega, by omega, by omega, by omega⟩
        · exact ⟨q, by omega, by omega, by omega, by omega⟩
      have hki : (kk : Int) ≤ (c : Int) := by omega
      have w64 : IntKind.i64.wrap (64 - (r : Int)) = 64 - (r : Int) := by rw [IntKind.wrap_i64]; omega
      have c8 : wr.cell? ⟨g, 8, none⟩ = some (.slice ra r rc) := hS.at 8 _ rfl
      have Hgr := Lib.hid (And.intro hkq (And.intro hk0 hk64))
      have HX := Lib.hid hX
      have Hxa := Lib.hid hxa
      have Hnew := Lib.hid hnew
      have HTn := Lib.hid hTn
      have HS := Lib.hid hS
      have HO := Lib.hid hO
      have Hr := Lib.hid (And.intro hr hXl)
      have Hq := Lib.hid (And.intro hq (And.intro hc hd))
      have Hx := Lib.hid hx
      have Hdn := Lib.hid (hTn.bytes (show BytesIn w (some ⟨xb, xo, none⟩) q c (ys.drop d) from hx) (fun _ ad had => by
        obtain ⟨ad', h1, h2⟩ := hxa ad had
        rw [h2]
        exact Hne.out (by omega) ad' h1))
      clear hX hxa hnew hTn hS hO hr hXl hq hc hd hx hkq hk0 hk64 hrb
      go_upto_region 4 with fail
      have HS2 := Lib.hid (show SumAt wr.drew g (mid X) (.slice ra r rc) (m + len) from HS.out.drew)
      have HO2 := Lib.hid (show OwnB wr.drew base 5 (.slice ra r rc) (lst X) from HO.out)
      have HT2 := Lib.hid (show Turned g rv.ownBlock w wr.drew from HTn.out.drewN 1)
      have HB2 := Lib.hid (show BytesIn wr.drew (some ⟨xb, xo, none⟩) q c (ys.drop d) from Hdn.out)
      have hgl2 : base ≤ wr.drew.heap.size := Nat.le_trans hbs HTn.out.size
      have c82 : wr.drew.cell? ⟨g, 8, none⟩ = some (.slice ra r rc) := c8
      clear HS HO HTn Hdn c8
      refine wp_region_held_drew (S := fun _ => True) (by kernel_rfl) (trivial) (fun hHeld => ?_)
      dsimp only [Array.replicate, List.replicate, List.size_toArray, List.length_cons, List.length_nil, Nat.reduceAdd] at hHeld ⊢
      refine take_l (i := 0) (v := ?_) rfl (by kernel_rfl) (by kernel_rfl) (by kernel_rfl) (fun _ _ _ h => h) (Or.inl ⟨by rfl, ?_⟩) (by assumption) ?_
      case refine_2 => (intro _ _; go_simp; all_goals with_reducible rfl)
      simp only [Act.put, List.setIfInBounds_toArray, List.set_cons_zero, List.set_cons_succ]
      refine take_l (i := 1) (v := ?_) rfl (by kernel_rfl) (by kernel_rfl) (by kernel_rfl) (fun _ _ _ h => h) (Or.inl ⟨by rfl, ?_⟩) (by assumption) ?_
      case refine_2 => (intro _ _; go_simp; all_goals with_reducible rfl)
      simp only [Act.put, List.setIfInBounds_toArray, List.set_cons_zero, List.set_cons_succ]
      refine take_l (i := 2) (v := ?_) rfl (by kernel_rfl) (by kernel_rfl) (by kernel_rfl) (fun _ _ _ h => h) (Or.inl ⟨by rfl, ?_⟩) (by assumption) ?_
      case refine_2 => (intro _ _; go_simp; all_goals with_reducible rfl)
      simp only [Act.put, List.setIfInBounds_toArray, List.set_cons_zero, List.set_cons_succ]
      refine take_l (i := 3) (v := ?_) rfl (by kernel_rfl) (by kernel_rfl) (by kernel_rfl) (fun _ _ _ h => h) (Or.inl ⟨by rfl, ?_⟩) (by assumption) ?_
      case refine_2 => (intro _ _; go_simp; all_goals with_reducible rfl)
      simp only [Act.put, List.setIfInBounds_toArray, List.set_cons_zero, List.set_cons_succ]
      refine take_l (i := 5) (v := ?_) rfl (by kernel_rfl) (by kernel_rfl) (by kernel_rfl) (fun _ _ _ h => h) (Or.inl ⟨by rfl, ?_⟩) (by assumption) ?_
      case refine_2 => (intro _ _; go_simp; all_goals with_reducible rfl)
      simp only [Act.put, List.setIfInBounds_toArray, List.set_cons_zero, List.set_cons_succ]
      refine take_l (i := 6) (v := ?_) rfl (by kernel_rfl) (by kernel_rfl) (by kernel_rfl) (fun _ _ _ h => h) (Or.inl ⟨by rfl, ?_⟩) (by assumption) ?_
      case refine_2 => (intro _ _; go_simp; all_goals with_reducible rfl)
      simp only [Act.put, List.setIfInBounds_toArray, List.set_cons_zero, List.set_cons_succ]
      refine take_l (i := 7) (v := ?_) rfl (by kernel_rfl) (by kernel_rfl) (by kernel_rfl) (fun _ _ _ h => h) (Or.inl ⟨by rfl, ?_⟩) (by assumption) ?_
      case refine_2 => (intro _ _; go_simp; all_goals with_reducible rfl)
      simp only [Act.put, List.setIfInBounds_toArray, List.set_cons_zero, List.set_cons_succ]
      refine wpAnyH_ready (rs := [4]) (by kernel_rfl) (by simp) ?_
      refine cons_l rfl (fun K hK => ?_) AllReadyH.nil
      go_simp
      go_wp2_with fail
      refine hK.out _ _ (trivial) (fun hHeld => ?_)
      clear hK K
      simp only [Act.put, List.setIfInBounds_toArray, List.set_cons_zero, List.set_cons_succ]
      generalize wr.drew = w2 at *
      have HP := Lib.hid (show BytesIn w2 (some ⟨xb, xo, none⟩) kk c ((ys.drop d).take kk) from HB2.out.first Hgr.out.1)
      have Hpl := Lib.hid (show (((ys.drop d).take kk).map vb).length = kk * 1 by rw [List.length_map, HP.out.1.1]; omega)
      have hrX := Hr.out.1
      refine wpAnyH_ready (rs := [8]) (by kernel_rfl) (by simp) ?_
      refine cons_l rfl (fun K hK => ?_) AllReadyH.nil
      refine step_append_own rfl (.tmp 33) (.tmp 36) 22 rfl base 5 i0 (.int .u8 0) 1 1 Tryd.underlying22 Hi.out Hz0.out Hz1.out Hz2.out rfl (by decide) (.slice ra r rc) (lst X).length ((lst X).map vb) rfl HO2.out.1 (some ⟨xb, xo, none⟩) kk c (((ys.drop d).take kk).map vb) rfl HP.out.2 Hpl.out HP.out.src (vb_one _) (by unfold maxLen at *; omega) (by omega) hgl2 ?_
      intro v' w3 hown3 hg3 hat3
      obtain ⟨P, hP⟩ : ∃ P, P = (ys.drop d).take kk := ⟨_, rfl⟩
      rw [← hP] at hown3 HP Hpl
      have hPl : P.length = kk := HP.out.1.1
      have HO3 := Lib.hid (show OwnB w3 base 5 v' (lst X ++ P) from ⟨by rw [List.length_append, List.map_append, hPl]; exact hown3, fun y hy => by
        rcases List.mem_append.1 hy with hy | hy
        · exact HO2.out.2 y hy
        · exact wf_u8_lt (HP.out.1.2.1 y hy)⟩)
      have hap2 := own_apart HO2.out HS2.out
      have HS3 := Lib.hid (show SumAt w3 g (mid X) (.slice ra r rc) (m + len) from Blk.grown HS2.out hg3 (fun e => hap2 e.symm))
      have HT3 := Lib.hid (HT2.out.trans (Turned.of_ob hg3) Hnew.out)
      have Hnw3 := Lib.hid (show ∀ j, v'.ownBlock = some j → rv.ownBlock = some j ∨ w.heap.size ≤ j from fun j hj => by
        rcases hat3 with h | h
        · exact Hnew.out j (by rw [← h, hj])
        · rw [hj] at h
          injection h with h
          exact .inr (by have := HT2.out.size; omega))
      have HPe := Lib.hid hP
      obtain ⟨a3, c3, hv3, hl3, hm3, hr3⟩ := HO3.out.reads
      obtain ⟨n3, hn3⟩ : ∃ n3, n3 = (lst X ++ P).length := ⟨_, rfl⟩
      have hn3k : n3 = r + kk := by rw [hn3, List.length_append, ← hrX, hPl]
      rw [← hn3] at hv3 hl3 hr3
      subst hv3
      have c83 : w3.cell? ⟨g, 8, none⟩ = some (.slice ra r rc) := HS3.out.at 8 _ rfl
      have f83 := HS3.out.free 8
      have HR3 := Lib.hid hr3
      have Hn3 := Lib.hid (And.intro hn3 hn3k)
      have HPl := Lib.hid hPl
      clear hown3 hg3 hat3 hP hap2 HS2 HO2 HT2 HB2 c82 HP Hpl hPl hn3 hn3k hr3 hrX hgl2
      refine hK.out _ _ trivial (fun hHeld => ?_)
      clear hK K
      simp only [Act.put, List.setIfInBounds_toArray, List.set_cons_zero, List.set_cons_succ]
      refine wpAnyH_ready (rs := [9]) (by kernel_rfl) (by simp) ?_
      refine cons_l rfl (fun K hK => ?_) AllReadyH.nil
      go_simp
      go_wp2_with fail
      refine hK.out _ _ (trivial) (fun hHeld => ?_)
      clear hK K
      simp only [Act.put, List.setIfInBounds_toArray, List.set_cons_zero, List.set_cons_succ]
      refine wpAnyH_ready (rs := [10]) (by kernel_rfl) (by simp) ?_
      refine cons_l rfl (fun K hK => ?_) AllReadyH.nil
      go_simp
      go_wp2_with fail
      refine hK.out _ _ (trivial) (fun hHeld => ?_)
      clear hK K
      simp only [Act.put, List.setIfInBounds_toArray, List.set_cons_zero, List.set_cons_succ]
      refine wpAnyH_ready (rs := [11]) (by kernel_rfl) (by simp) ?_
      refine cons_l rfl (fun K hK => ?_) AllReadyH.nil
      go_simp
      go_wp2_with fail
      refine hK.out _ _ (trivial) (fun hHeld => ?_)
      clear hK K
      simp only [Act.put, List.setIfInBounds_toArray, List.set_cons_zero, List.set_cons_succ]
      refine wpAnyH_done (by kernel_rfl) ?_ _
      have hgs := gb_set (gb_refl w3 (some g)) (p := ⟨g, 8, none⟩) (.inl rfl) (.slice a3 n3 c3)
      have HS4 := Lib.hid (show SumAt (w3.setCell ⟨g, 8, none⟩ (.slice a3 n3 c3)) g (mid X) (.slice a3 n3 c3) (m + len) from by rw [SumAt, ← sum_put8 _ (.slice ra r rc)]; exact HS3.out.put 8 _)
      have hap3 := own_apart HO3.out HS3.out
      have HO4 := Lib.hid (own_grown HO3.out hgs hap3)
      have HT4 := Lib.hid (HT3.out.trans (Turned.of_g (ob := (Value.slice a3 n3 c3).ownBlock) hgs) Hnw3.out)
      clear HS3 HO3 HT3 hgs hap3 c83 f83 HR3
      go_upto_region 5 with fail
      generalize w3.setCell ⟨g, 8, none⟩ (.slice a3 n3 c3) = w4 at *
      have c84 : w4.cell? ⟨g, 8, none⟩ = some (.slice a3 n3 c3) := HS4.out.at 8 _ rfl
      clear hkk w64
      have HL := Lib.hid (show BytesIn w (leftAt (some ⟨xb, xo, none⟩) c kk) (q - kk) (c - kk) (ys.drop (d + kk)) from by rw [← List.drop_drop]; exact Hx.out.left Hgr.out.1 hqc)
      have HLa := Lib.hid (show ∀ ad, leftAt (some ⟨xb, xo, none⟩) c kk = some ad → ∃ ad', a = some ad' ∧ ad.block = ad'.block from fun ad had => by
        obtain ⟨ad0, h1, h2⟩ := leftAt_block had
        obtain ⟨ad', h3, h4⟩ := Hxa.out ad0 h1
        exact ⟨ad', h3, h2.trans h4⟩)
      have HXP := Lib.hid (show xs ++ ys.take (d + kk) = X ++ P by rw [HX.out, HPe.out, List.append_assoc, List.take_add])
      have Hd' := Lib.hid (show d + kk ≤ len ∧ len - (d + kk) = q - kk ∧ cap - (d + kk) = c - kk from by have h1 := Hq.out; have h2 := Hgr.out.1; omega)
      have Hks := Lib.hid (And.intro hqc (And.intro hcm2 (And.intro hrcm (And.intro hrc (And.intro hr64 (And.intro hl3 hm3))))))
      have Hb0 := Lib.hid (And.intro h0 (And.intro hbs (And.intro hmm hgl)))
      clear hqc hcm2 hrcm hrc hr64 hl3 hm3 hki hqi hlc hcm hmm h0 hbs hlen w9 w8 c9 f9 Hx Hxa HPe
      by_cases hck : c = kk
      · have HLe := Lib.hid (show leftAt (some ⟨xb, xo, none⟩) c kk = some ⟨xb, xo, none⟩ by simp [leftAt, hck])
        have hqk : q = kk := by have h1 := Hgr.out.1; have h2 := Hks.out.1; omega
        have HLz := Lib.hid (show q - kk = 0 ∧ c - kk = 0 by omega)
        subst hck
        subst hqk
        go_upto_region 6 with fail
        rcases Hgr.out.2.2 with hfew | hfull
        · have hn64 : ¬ (n3 : Int) = 64 := by have := Hn3.out.2; omega
          have hn64' : ((n3 : Int) == 64) = false := by simp [hn64]
          go_wp2_with fail
          go_roundw
          case rel =>
            obtain ⟨e1, e2⟩ := grow_few X P (by rw [HPl.out, ← Hr.out.2]; omega)
            have hsum : SumIs w4 base g (xs ++ ys.take (d + q)) (m + len) (.slice a3 n3 c3) := by rw [HXP.out]; exact ⟨by rw [e1]; exact HS4.out, by rw [e2]; exact HO4.out⟩
            have hR : ∃ (d' : Nat) (x : Option Addr) (rv' : Value), d' ≤ len ∧ Value.slice (some ⟨xb, xo, none⟩) 0 0 = .slice x (len - d' : Nat) (cap - d' : Nat) ∧ BytesIn w x (len - d') (cap - d') (ys.drop d') ∧ (∀ ad, x = some ad → ∃ ad', a = some ad' ∧ ad.block = ad'.block) ∧
                SumIs w4 base g (xs ++ ys.take d') (m + len) rv' ∧ Turned g rv.ownBlock w w4 ∧ (∀ j, rv'.ownBlock = some j → rv.ownBlock = some j ∨ w.heap.size ≤ j) :=
              ⟨d + q, (some ⟨xb, xo, none⟩), _, Hd'.out.1, by rw [Hd'.out.2.1, Hd'.out.2.2, HLz.out.1], by rw [Hd'.out.2.1, Hd'.out.2.2, ← HLe.out]; exact HL.out, by rw [← HLe.out]; exact HLa.out, hsum, HT4.out, Hnw3.out⟩
            first | exact hR | ((repeat apply Exists.intro); exact ⟨hR, rfl⟩)
          case measure => simp only [sliceLen]; have := Hgr.out.2.1; omega
        · have hn64 : n3 = 64 := by have := Hn3.out.2; omega
          subst hn64
          obtain ⟨B, hBe⟩ : ∃ B, B = lst X ++ P := ⟨_, rfl⟩
          rw [← hBe] at HO4 Hn3
          have HBe := Lib.hid hBe
          clear hBe
          obtain ⟨j, cj, cur, hv, hbj, hBj, _, _, _, htk⟩ := HO4.out.form (by rw [← Hn3.out.1]; omega)
          injection hv with hv1 hv2 hv3
          subst hv1
          have HLd := Lib.hid (fun (o : Oper) (a : Act) (x : Operand) (ho : o.op = .load 60 x) (hx : a.eval x = .pointer (some ⟨j, 0, none⟩)) =>
            exec_load_mid (P := Tryd.prog) (o := o) (a := a) (w := w4) 60 x j 0 (B.map vb) (.array 64 5) ho hx (fun i v hv => by
              rw [Nat.zero_add]
              refine hBj.at i v ?_
              rw [← htk, List.getElem?_take] at hv
              split at hv
              · rw [← Array.getElem?_toList]; exact hv
              · cases hv) (by kernel_rfl) rfl (by rw [List.length_map, ← Hn3.out.1]; kernel_rfl))
          have hcj : (64 : Nat) ≤ c3 := Hks.out.2.2.2.2.2.1
          clear hv2 hv3 hbj hBj htk
          have hAr : ∀ W, (Instr.arrayAt 60 (.slice (some ⟨j, 0, none⟩) 64 c3)).run Tryd.prog W = .ok (.pointer (some ⟨j, 0, none⟩)) W := fun _ => by kernel_rfl
          go_wp2_with (refine wpList_run _ rfl (HLd.out _ _ (.tmp 54) rfl rfl) ?_)
          refine (block_any B Hn3.out.1.symm HO4.out.2 HS4.out (HT.out.turned HT4.out (Nat.ne_of_gt hg0) (fun e => by have h1 := Hob.out 0 e; have h2 := Hb0.out.1; omega)) (Nat.ne_of_gt hg0)).mono ?_
          rintro e w5 ⟨rfl, hS5, hg5⟩
          obtain ⟨v5, hv5⟩ : ∃ v5, v5 = compress (mid X) B := ⟨_, rfl⟩
          rw [← hv5] at hS5
          have Hv5 := Lib.hid hv5
          clear hv5
          have hap4 := own_apart HO4.out HS4.out
          have c85 : w5.cell? ⟨g, 8, none⟩ = some (.slice (some ⟨j, 0, none⟩) 64 c3) := hS5.at 8 _ rfl
          have f85 := hS5.free 8
          have HO5 := Lib.hid (own_grown HO4.out hg5 hap4)
          have HT5 := Lib.hid (HT4.out.trans (Turned.of_g (ob := (Value.slice (some ⟨j, 0, none⟩) 64 c3).ownBlock) hg5) Hnw3.out)
          have hgs := gb_set (gb_refl w5 (some g)) (p := ⟨g, 8, none⟩) (.inl rfl) (.slice (some ⟨j, 0, none⟩) 0 c3)
          have HS6 := Lib.hid (show SumAt (w5.setCell ⟨g, 8, none⟩ (.slice (some ⟨j, 0, none⟩) 0 c3)) g v5 (.slice (some ⟨j, 0, none⟩) 0 c3) (m + len) from by rw [SumAt, ← sum_put8 _ (.slice (some ⟨j, 0, none⟩) 64 c3)]; exact hS5.put 8 _)
          have HO6 := Lib.hid (own_cut (own_grown HO5.out hgs hap4))
          have HT6 := Lib.hid (HT5.out.trans (Turned.of_g (ob := (Value.slice (some ⟨j, 0, none⟩) 64 c3).ownBlock) hgs) Hnw3.out)
          clear hS5 hg5 hap4 HO5 HT5 hgs HS4 HO4 HT4 c84 HLd hAr
          go_wp2_with fail
          generalize w5.setCell ⟨g, 8, none⟩ (.slice (some ⟨j, 0, none⟩) 0 c3) = w6 at *
          go_roundw
          case rel =>
            obtain ⟨e1, e2⟩ := grow_full X P (by rw [HPl.out, ← Hr.out.2]; omega)
            have hsum : SumIs w6 base g (xs ++ ys.take (d + q)) (m + len) (.slice (some ⟨j, 0, none⟩) 0 c3) := by rw [HXP.out]; exact ⟨by rw [e1, ← HBe.out, ← Hv5.out]; exact HS6.out, by rw [e2]; exact HO6.out⟩
            have hR : ∃ (d' : Nat) (x : Option Addr) (rv' : Value), d' ≤ len ∧ Value.slice (some ⟨xb, xo, none⟩) 0 0 = .slice x (len - d' : Nat) (cap - d' : Nat) ∧ BytesIn w x (len - d') (cap - d') (ys.drop d') ∧ (∀ ad, x = some ad → ∃ ad', a = some ad' ∧ ad.block = ad'.block) ∧
                SumIs w6 base g (xs ++ ys.take d') (m + len) rv' ∧ Turned g rv.ownBlock w w6 ∧ (∀ j, rv'.ownBlock = some j → rv.ownBlock = some j ∨ w.heap.size ≤ j) :=
              ⟨d + q, (some ⟨xb, xo, none⟩), _, Hd'.out.1, by rw [Hd'.out.2.1, Hd'.out.2.2, HLz.out.1], by rw [Hd'.out.2.1, Hd'.out.2.2, ← HLe.out]; exact HL.out, by rw [← HLe.out]; exact HLa.out, hsum, HT6.out, Hnw3.out⟩
            first | exact hR | ((repeat apply Exists.intro); exact ⟨hR, rfl⟩)
          case measure => simp only [sliceLen]; have := Hgr.out.2.1; omega
      · have HLe := Lib.hid (show leftAt (some ⟨xb, xo, none⟩) c kk = some ⟨xb, xo + kk, none⟩ by simp [leftAt, hck, Go.WideShapes.add_plain])
        have i0_ : (0 : Int) ≤ (kk : Int) := by omega
        have il_ : (kk : Int) ≤ (q : Int) := by have := Hgr.out.1; omega
        have ic_ : (kk : Int) ≤ (c : Int) := by have := Hks.out.1; omega
        clear hlt
        go_upto_region 6 with fail
        rcases Hgr.out.2.2 with hfew | hfull
        · have hn64 : ¬ (n3 : Int) = 64 := by have := Hn3.out.2; omega
          have hn64' : ((n3 : Int) == 64) = false := by simp [hn64]
          go_wp2_with fail
          go_roundw
          case rel =>
            obtain ⟨e1, e2⟩ := grow_few X P (by rw [HPl.out, ← Hr.out.2]; omega)
            have hsum : SumIs w4 base g (xs ++ ys.take (d + kk)) (m + len) (.slice a3 n3 c3) := by rw [HXP.out]; exact ⟨by rw [e1]; exact HS4.out, by rw [e2]; exact HO4.out⟩
            have hR : ∃ (d' : Nat) (x : Option Addr) (rv' : Value), d' ≤ len ∧ Value.slice (some ⟨xb, xo + kk, none⟩) (q - kk) (c - kk) = .slice x (len - d' : Nat) (cap - d' : Nat) ∧ BytesIn w x (len - d') (cap - d') (ys.drop d') ∧ (∀ ad, x = some ad → ∃ ad', a = some ad' ∧ ad.block = ad'.block) ∧
                SumIs w4 base g (xs ++ ys.take d') (m + len) rv' ∧ Turned g rv.ownBlock w w4 ∧ (∀ j, rv'.ownBlock = some j → rv.ownBlock = some j ∨ w.heap.size ≤ j) :=
              ⟨d + kk, (some ⟨xb, xo + kk, none⟩), _, Hd'.out.1, by rw [Hd'.out.2.1, Hd'.out.2.2], by rw [Hd'.out.2.1, Hd'.out.2.2, ← HLe.out]; exact HL.out, by rw [← HLe.out]; exact HLa.out, hsum, HT4.out, Hnw3.out⟩
            first | exact hR | ((repeat apply Exists.intro); exact ⟨hR, rfl⟩)
          case measure => simp only [sliceLen]; have := Hgr.out.2.1; omega
        · have hn64 : n3 = 64 := by have := Hn3.out.2; omega
          subst hn64
          obtain ⟨B, hBe⟩ : ∃ B, B = lst X ++ P := ⟨_, rfl⟩
          rw [← hBe] at HO4 Hn3
          have HBe := Lib.hid hBe
          clear hBe
          obtain ⟨j, cj, cur, hv, hbj, hBj, _, _, _, htk⟩ := HO4.out.form (by rw [← Hn3.out.1]; omega)
          injection hv with hv1 hv2 hv3
          subst hv1
          have HLd := Lib.hid (fun (o : Oper) (a : Act) (x : Operand) (ho : o.op = .load 60 x) (hx : a.eval x = .pointer (some ⟨j, 0, none⟩)) =>
            exec_load_mid (P := Tryd.prog) (o := o) (a := a) (w := w4) 60 x j 0 (B.map vb) (.array 64 5) ho hx (fun i v hv => by
              rw [Nat.zero_add]
              refine hBj.at i v ?_
              rw [← htk, List.getElem?_take] at hv
              split at hv
              · rw [← Array.getElem?_toList]; exact hv
              · cases hv) (by kernel_rfl) rfl (by rw [List.length_map, ← Hn3.out.1]; kernel_rfl))
          have hcj : (64 : Nat) ≤ c3 := Hks.out.2.2.2.2.2.1
          clear hv2 hv3 hbj hBj htk
          have hAr : ∀ W, (Instr.arrayAt 60 (.slice (some ⟨j, 0, none⟩) 64 c3)).run Tryd.prog W = .ok (.pointer (some ⟨j, 0, none⟩)) W := fun _ => by kernel_rfl
          go_wp2_with (refine wpList_run _ rfl (HLd.out _ _ (.tmp 54) rfl rfl) ?_)
          refine (block_any B Hn3.out.1.symm HO4.out.2 HS4.out (HT.out.turned HT4.out (Nat.ne_of_gt hg0) (fun e => by have h1 := Hob.out 0 e; have h2 := Hb0.out.1; omega)) (Nat.ne_of_gt hg0)).mono ?_
          rintro e w5 ⟨rfl, hS5, hg5⟩
          obtain ⟨v5, hv5⟩ : ∃ v5, v5 = compress (mid X) B := ⟨_, rfl⟩
          rw [← hv5] at hS5
          have Hv5 := Lib.hid hv5
          clear hv5
          have hap4 := own_apart HO4.out HS4.out
          have c85 : w5.cell? ⟨g, 8, none⟩ = some (.slice (some ⟨j, 0, none⟩) 64 c3) := hS5.at 8 _ rfl
          have f85 := hS5.free 8
          have HO5 := Lib.hid (own_grown HO4.out hg5 hap4)
          have HT5 := Lib.hid (HT4.out.trans (Turned.of_g (ob := (Value.slice (some ⟨j, 0, none⟩) 64 c3).ownBlock) hg5) Hnw3.out)
          have hgs := gb_set (gb_refl w5 (some g)) (p := ⟨g, 8, none⟩) (.inl rfl) (.slice (some ⟨j, 0, none⟩) 0 c3)
          have HS6 := Lib.hid (show SumAt (w5.setCell ⟨g, 8, none⟩ (.slice (some ⟨j, 0, none⟩) 0 c3)) g v5 (.slice (some ⟨j, 0, none⟩) 0 c3) (m + len) from by rw [SumAt, ← sum_put8 _ (.slice (some ⟨j, 0, none⟩) 64 c3)]; exact hS5.put 8 _)
          have HO6 := Lib.hid (own_cut (own_grown HO5.out hgs hap4))
          have HT6 := Lib.hid (HT5.out.trans (Turned.of_g (ob := (Value.slice (some ⟨j, 0, none⟩) 64 c3).ownBlock) hgs) Hnw3.out)
          clear hS5 hg5 hap4 HO5 HT5 hgs HS4 HO4 HT4 c84 HLd hAr
          go_wp2_with fail
          generalize w5.setCell ⟨g, 8, none⟩ (.slice (some ⟨j, 0, none⟩) 0 c3) = w6 at *
          go_roundw
          case rel =>
            obtain ⟨e1, e2⟩ := grow_full X P (by rw [HPl.out, ← Hr.out.2]; omega)
            have hsum : SumIs w6 base g (xs ++ ys.take (d + kk)) (m + len) (.slice (some ⟨j, 0, none⟩) 0 c3) := by rw [HXP.out]; exact ⟨by rw [e1, ← HBe.out, ← Hv5.out]; exact HS6.out, by rw [e2]; exact HO6.out⟩
            have hR : ∃ (d' : Nat) (x : Option Addr) (rv' : Value), d' ≤ len ∧ Value.slice (some ⟨xb, xo + kk, none⟩) (q - kk) (c - kk) = .slice x (len - d' : Nat) (cap - d' : Nat) ∧ BytesIn w x (len - d') (cap - d') (ys.drop d') ∧ (∀ ad, x = some ad → ∃ ad', a = some ad' ∧ ad.block = ad'.block) ∧
                SumIs w6 base g (xs ++ ys.take d') (m + len) rv' ∧ Turned g rv.ownBlock w w6 ∧ (∀ j, rv'.ownBlock = some j → rv.ownBlock = some j ∨ w.heap.size ≤ j) :=
              ⟨d + kk, (some ⟨xb, xo + kk, none⟩), _, Hd'.out.1, by rw [Hd'.out.2.1, Hd'.out.2.2], by rw [Hd'.out.2.1, Hd'.out.2.2, ← HLe.out]; exact HL.out, by rw [← HLe.out]; exact HLa.out, hsum, HT6.out, Hnw3.out⟩
            first | exact hR | ((repeat apply Exists.intro); exact ⟨hR, rfl⟩)
          case measure => simp only [sliceLen]; have := Hgr.out.2.1; omega
    · obtain rfl : q = 0 := by omega
      have hdl : d = len := by omega
      subst hdl
      clear hq hc hd hcm2 hqc hx
      go_wp2_with fail
      refine bodyPost_end (results_none rfl _ _ _) rfl ⟨rfl, rv', ?_, hTn, hnew⟩
      rw [List.take_of_length_le (by rw [hy0]; exact Nat.le_refl _)] at hS hO
      exact ⟨hS, hO⟩
end Go.Proofs.YtlekepigndlbhaaDoor
