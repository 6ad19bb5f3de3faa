/-
  What the proof of DevBack rests on, part 5 of 9.
-/
import Derived.Test.YtjmghpoknlffiaaDevBackB4
namespace Go.Proofs.Ytjmghpoknlffiaa
open Go.ChangeShapes Go.WideShapes Go.ChangeAt Go.RowKit
set_option linter.unusedSimpArgs false

theorem info_b1 : (Try.prog.info? 22).map (fun i => (i.zero, i.size, i.bytes)) = some (some (.slice none 0 0), 1, 24) := by kernel_rfl
theorem info_b2 : (Try.prog.info? 50).map (fun i => (i.zero, i.size, i.bytes)) = some (some (.slice none 0 0), 1, 24) := by kernel_rfl
theorem e_sl59 {o : Oper} {a : Act} {w : World} {g i n c : Nat} {v : Option Addr} (hc : w.cell? ⟨g, i, none⟩ = some (.slice v n c)) (x : Operand) (ho : o.op = .load 59 x) (hx : a.eval x = .pointer (some ⟨g, i, none⟩)) :
    (execOp a.eval o).run Try.prog w = .ok (.value (.slice v n c)) w := by
  unfold execOp
  simp only [ho, hx]
  go_simp
/-- The blocks as they are laid back, one by one. -/
def backL (st c : List (List Nat)) : Nat → List (List Nat)
  | 0 => st
  | k + 1 => (backL st c k).set k (c.getD k [])
theorem backL_len (st c : List (List Nat)) (k : Nat) : (backL st c k).length = st.length := by
  induction k with
  | zero => rfl
  | succ k ih => rw [backL, List.length_set, ih]
theorem backL_at (st c : List (List Nat)) (hl : c.length = st.length) (k : Nat) (hk : k ≤ st.length) : ∀ j, j < k → (backL st c k)[j]? = c[j]? := by
  induction k with
  | zero => intro j hj; omega
  | succ k ih =>
    intro j hj
    rw [backL]
    by_cases he : k = j
    · subst he
      rw [List.getElem?_set_self (by rw [backL_len]; omega), List.getD_eq_getElem?_getD, List.getElem?_eq_getElem (show k < c.length by omega)]
      rfl
    · rw [List.getElem?_set_ne he]
      exact ih (by omega) j (by omega)
theorem backL_all (st c : List (List Nat)) (hl : c.length = st.length) : backL st c st.length = c := List.ext_getElem? (fun j => by
  by_cases hj : j < st.length
  · exact backL_at st c hl _ (Nat.le_refl _) j hj
  · rw [List.getElem?_eq_none (by rw [backL_len]; omega), List.getElem?_eq_none (by omega)])
theorem backL_bl (st c : List (List Nat)) (h1 : ∀ b ∈ st, Bl b) (h2 : ∀ b ∈ c, Bl b) (hl : c.length = st.length) (k : Nat) (hk : k ≤ st.length) : ∀ b ∈ backL st c k, Bl b := by
  induction k with
  | zero => exact h1
  | succ k ih => exact set_bl (ih (by omega)) (getD_bl h2 (by omega))
section
variable {w : World} {x : Nat} {s : Dv} {F : Nat → Prop}
set_option maxRecDepth 100000 in
theorem xSnap_full (H : RefRep w x s F) (h8 : s.cp.length = 8) : Calls Try.prog 51 #[.pointer (some ⟨x, 0, none⟩)] w fun e w' => e = .returned (.tuple #[.int .i64 0, .int .i64 11]) ∧ w = w' := by
  obtain ⟨st, wa, cp, wv, bs, ws, rs, cv, Fz, M⟩ := H.state
  obtain ⟨co, cc, rfl⟩ := own_len M.cp
  have c5 := (RefAt.cells M.dv).2.2.2.2.2.1
  rw [h8] at c5
  clear M H h8
  go_enter Try.func51, Try.ntmps51
  go_wp2_with fail
  go_ret2
  exact ⟨rfl, rfl⟩
set_option maxRecDepth 100000 in
set_option maxHeartbeats 8000000 in
theorem xSnap_good (H : RefRep w x s F) (h8 : s.cp.length < 8) (hwl : s.wa.length ≤ 1000000000) : Calls Try.prog 51 #[.pointer (some ⟨x, 0, none⟩)] w fun e w' => e = .returned (.tuple #[.int .i64 (s.cp.length : Int), .int .i64 0]) ∧ RefNext F w w' x s.snap := by
  have Hok := Lib.hid H.1
  have HFl := Lib.hid H.2.1
  have Hok2 := Lib.hid (H.1.snap h8)
  have HNw := Lib.hid (show ∀ u, Below w.heap.size w u → ∀ k, k < s.st.length → Calls Try.prog 53 #[.pointer (some ⟨x, 0, none⟩), .int .i64 (k : Int)] u fun e w' =>
    ∃ C cc, e = .returned (.slice (some ⟨C, 0, none⟩) 256 cc) ∧ OwnB w' u.heap.size 5 (.slice (some ⟨C, 0, none⟩) 256 cc) (s.now k) ∧ Below u.heap.size u w' from fun u hu k hk => xNow_any (H.below hu) k hk _ rfl hwl)
  obtain ⟨st, wa, cp, wv, bs, ws, rs, cv, Fz, M⟩ := H.state
  obtain ⟨co, cc, rfl⟩ := own_len M.cp
  obtain ⟨q, hq⟩ : ∃ q, q = s.cp.length := ⟨_, rfl⟩
  have Hq := Lib.hid hq
  rw [← hq] at M h8
  rw [← hq]
  obtain ⟨g, cap, hst, _⟩ := M.st.slot H.1.n1 H.1.st
  obtain ⟨n, hn⟩ : ∃ n, n = s.st.length := ⟨_, rfl⟩
  have Hn := Lib.hid hn
  rw [← hn] at hst
  subst hst
  have hnb : n ≤ 65536 := by rw [hn]; exact H.1.n2
  have HD := Lib.hid M
  have c5 := (RefAt.cells M.dv).2.2.2.2.2.1
  have c0 := (RefAt.cells M.dv).1
  have hq8 : ((q : Int) == 8) = false := by rw [beq_eq_false_iff_ne]; omega
  obtain ⟨i1, hi1, hi1a, hi1b, hi1c⟩ := info_parts info_b1
  have Hi1 := Lib.hid (And.intro hi1 (And.intro hi1a (And.intro hi1b hi1c)))
  obtain ⟨i2, hi2, hi2a, hi2b, hi2c⟩ := info_parts info_b2
  have Hi2 := Lib.hid (And.intro hi2 (And.intro hi2a (And.intro hi2b hi2c)))
  clear H hwl M hq hn hi1 hi1a hi1b hi1c hi2 hi2a hi2b hi2c
  go_enter Try.func51, Try.ntmps51
  go_wp2_with fail
  clear c0 c5
  go_loopw [4, 5] (fun y4 jv wx => ∃ (k : Nat) (v : Value) (es : List Value), k ≤ n ∧ jv = .int .i64 k ∧ v = y4 ∧ Below w.heap.size w wx ∧ wx.ownsRow w.heap.size 22 1 v k es ∧ ∀ (j : Nat) (u : Value) (b : List Nat), es[j]? = some u → s.image[j]? = some b → OwnB wx w.heap.size 5 u b) (fun _ jv _ => n - (intOf jv).toNat)
  case atStart => exact ⟨0, _, [], by omega, rfl, rfl, nu_refl w, World.ownsRow_nil _ _ _ _, (fun j u b h => by cases h)⟩
  case round =>
    obtain ⟨k, v4, es, hk, rfl, rfl, hb, hown, hes⟩ := hrel
    have hD := HD.out.below hb
    have c0 := (RefAt.cells hD.dv).1
    by_cases hlt : k < n
    · have hki : (k : Int) < (n : Int) := by omega
      have HNk := Lib.hid (HNw.out wr hb k (by rw [← Hn.out]; exact hlt))
      have Hb := Lib.hid hb
      have Hown := Lib.hid hown
      have Hes := Lib.hid hes
      have Hel := Lib.hid (show es.length = k from by have := hown.1; omega)
      have Hik := Lib.hid (s.image_at (i := k) (by rw [← Hn.out]; exact hlt))
      clear hD hb hown hes
      go_wp2_with fail
      refine HNk.out.mono ?_
      rintro e w2 ⟨C, c2, rfl, hO, hb2⟩
      have hal := nu_alloc (nu_refl w2) (.cells #[.slice (some ⟨C, 0, none⟩) 256 c2] 22)
      have hb3 := nu_trans hb2 hal
      have HA := Lib.hid (Blk.made w2 22 #[.slice (some ⟨C, 0, none⟩) 256 c2])
      have HOw := Lib.hid (own_eq Hown.out (fun q hq => hb3.block q (Hown.out.lt q hq).2))
      have HO1 := Lib.hid (own_mono (ownB_under hO hal) Hb.out.size)
      have Hes3 := Lib.hid (show ∀ (j : Nat) (u : Value) (b : List Nat), es[j]? = some u → s.image[j]? = some b → OwnB (w2.alloc (.cells #[.slice (some ⟨C, 0, none⟩) 256 c2] 22)) w.heap.size 5 u b from fun j u b h1 h2 => ownB_under (Hes.out j u b h1 h2) hb3)
      have Hb3 := Lib.hid (nu_trans Hb.out hb3)
      clear hO hb2 hal hb3 Hown Hes Hb HNk c0
      go_upto_region 6 with (first | (refine wpList_runW _ _ rfl (exec_slice1 (.tmp 24) 50 22 i1 (.slice none 0 0) 1 Try.underlying50 Hi1.out.1 Hi1.out.2.1 Hi1.out.2.2.1 (by omega) (by omega) (.slice (some ⟨C, 0, none⟩) 256 c2) rfl rfl rfl) ?_) | (at_builtin; refine wpList_append_own _ rfl (.tmp 21) (.tmp 25) 50 rfl w.heap.size 22 i1 (.slice none 0 0) 1 24 Try.underlying50 Hi1.out.1 Hi1.out.2.1 Hi1.out.2.2.1 Hi1.out.2.2.2 rfl (by omega) _ k es rfl HOw.out ⟨w2.heap.size, 0, none⟩ 1 1 [.slice (some ⟨C, 0, none⟩) 256 c2] rfl rfl (fun j u hu => by rw [Addr.add_lit, Nat.zero_add]; exact HA.out.at j u (by simpa using hu)) (fun u hu => by rw [List.mem_singleton.1 hu]; rfl) (by unfold maxLen; omega) (by omega) Hb3.out.size ?_))
      intro v' w5 hown hg _
      have HR := Lib.hid (show Below w.heap.size w w5 ∧ w5.ownsRow w.heap.size 22 1 v' (k + 1) (es ++ [.slice (some ⟨C, 0, none⟩) 256 c2]) ∧ ∀ (j : Nat) (u : Value) (b : List Nat), (es ++ [.slice (some ⟨C, 0, none⟩) 256 c2])[j]? = some u → s.image[j]? = some b → OwnB w5 w.heap.size 5 u b from by
        have hr := own_typed HOw.out
        refine ⟨Hb3.out.grown hg Hb3.out.size (fun q hq => (HOw.out.lt q hq).1), hown, fun j u b h1 h2 => ?_⟩
        by_cases hj : j < es.length
        · rw [List.getElem?_append_left hj] at h1
          exact ownB_keep hr hg (Hes3.out j u b h1 h2) (by decide)
        · rw [List.getElem?_append_right (by omega)] at h1
          obtain ⟨l, hl⟩ : ∃ l, l = j - es.length := ⟨_, rfl⟩
          rw [← hl] at h1
          cases l with
          | zero =>
            injection h1 with h1
            have he : j = k := by have := Hel.out; omega
            rw [he, Hik.out] at h2
            injection h2 with h2
            rw [← h1, ← h2]
            exact ownB_keep hr hg HO1.out (by decide)
          | succ l => cases h1)
      clear hown hg HA HOw HO1 Hes3 Hb3 Hel Hik
      go_wp2_with fail
      go_roundw
      case rel => first | exact ⟨k + 1, v', _, by omega, by go_num, rfl, HR.out⟩ | ((repeat apply Exists.intro); exact ⟨⟨k + 1, v', _, by omega, by go_num, rfl, HR.out⟩, rfl⟩)
      case measure => simp [intOf]; omega
    · obtain rfl : k = n := by omega
      have hki : ¬ (k : Int) < (k : Int) := by omega
      have Hel : es.length = k := by have := hown.1; omega
      have hbyr : ByRow wr v4 s.image es := ⟨by rw [Dv.image_len, ← Hn.out]; exact own_zero hown, fun j u b h1 h2 => own_mono (hes j u b h1 h2) (Nat.zero_le _)⟩
      have hD2 := hD.addFz (fun j => w.heap.size ≤ j ∧ j < wr.heap.size) (fun j hj => ⟨.inr ⟨Nat.le_trans HD.out.md.size hj.1, hj.2⟩, fun e => by
        have := (HD.out.st.1.lt j e).2
        omega, fun u hu e => by
        have := HD.out.st_lt u hu j e
        omega⟩)
      have himg : Img wr v4 s.image (fun j => Fz j ∨ (w.heap.size ≤ j ∧ j < wr.heap.size)) := ⟨es, hbyr, fun j hj => .inr (hown.lt j hj), fun u hu j hj => by
        obtain ⟨l, hl⟩ := List.mem_iff_getElem?.1 hu
        have hll : l < s.image.length := by rw [Dv.image_len, ← Hn.out, ← Hel]; exact (List.getElem?_eq_some_iff.1 hl).1
        exact .inr ((hes l u _ hl (List.getElem?_eq_getElem hll)).1.lt j hj)⟩
      obtain ⟨va, vc, rfl⟩ := own_len hown
      have hal := nu_alloc (nu_refl wr) (.cells #[.slice va k vc] 50)
      have HA := Lib.hid (Blk.made wr 50 #[.slice va k vc])
      have HDa := Lib.hid (hD2.below hal)
      have HIa := Lib.hid (himg.below hal)
      have c5 := (RefAt.cells hD.dv).2.2.2.2.2.1
      have HOw := Lib.hid (show (wr.alloc (.cells #[.slice va k vc] 50)).ownsRow 0 50 1 (.slice co q cc) q cv from by
        have h := HDa.out.cp
        rw [← Hq.out] at h
        exact h)
      clear hb hown hes hD hD2 hbyr himg hal Hel
      go_upto_region 8 with fail
      go_upto_region 9 with (first | (refine wpList_runW _ _ rfl (exec_slice1 (.tmp 32) 59 50 i2 (.slice none 0 0) 1 Try.underlying59 Hi2.out.1 Hi2.out.2.1 Hi2.out.2.2.1 (by omega) (by omega) (.slice va k vc) rfl rfl rfl) ?_) | (at_builtin; refine wpList_append_z rfl (.tmp 31) (.tmp 33) 59 rfl 50 i2 (.slice none 0 0) 1 24 Try.underlying59 Hi2.out.1 Hi2.out.2.1 Hi2.out.2.2.1 Hi2.out.2.2.2 rfl (by omega) (.slice co q cc) q cv rfl (.inl HOw.out) ⟨wr.heap.size, 0, none⟩ 1 1 (by omega) [.slice va k vc] rfl rfl (fun j u hu => by rw [Addr.add_lit, Nat.zero_add]; exact HA.out.at j u (by simpa using hu)) (fun u hu => by rw [List.mem_singleton.1 hu]; rfl) (by unfold maxLen; omega) (by omega) ?_))
      intro v' w5 hown hg hb
      obtain ⟨vb, vd, rfl⟩ := own_len hown
      have hW := HDa.out.moreCp (c := s.image) (by rw [← Hq.out]; exact hown) HIa.out hg (by simpa using hb)
      have HN := Lib.hid (hW.1.next Hok2.out HFl.out)
      obtain ⟨_, c1, f1⟩ := hW
      have eq1 : ((q + 1 : Nat) : Int) - 1 = (q : Int) := by omega
      have eq2 : (q : Int) + 1 - 1 = (q : Int) := by omega
      have wq : IntKind.i64.wrap (q : Int) = (q : Int) := by rw [IntKind.wrap_i64]; omega
      clear hown hg hb HDa HIa HOw HA
      go_wp2_with fail
      go_ret2
      exact ⟨rfl, HN.out⟩
set_option maxRecDepth 100000 in
theorem xBack_bad (H : RefRep w x s F) (a : Int) (h : a < 0 ∨ (s.cp.length : Int) ≤ a) : Calls Try.prog 52 #[.pointer (some ⟨x, 0, none⟩), .int .i64 a] w fun e w' => e = .returned (.int .i64 1) ∧ w = w' := by
  obtain ⟨st, wa, cp, wv, bs, ws, rs, cv, Fz, M⟩ := H.state
  obtain ⟨co, cc, rfl⟩ := own_len M.cp
  have c5 := (RefAt.cells M.dv).2.2.2.2.2.1
  clear M H
  by_cases h1 : a < 0
  · clear h
    go_enter Try.func52, Try.ntmps52
    go_wp2_with fail
    go_ret
    exact ⟨rfl, rfl⟩
  · have h2 : (s.cp.length : Int) ≤ a := by omega
    clear h
    go_enter Try.func52, Try.ntmps52
    go_wp2_with fail
    go_ret
    exact ⟨rfl, rfl⟩
set_option maxRecDepth 100000 in
set_option maxHeartbeats 8000000 in
theorem xBack_good (H : RefRep w x s F) (i : Nat) (hi : i < s.cp.length) : Calls Try.prog 52 #[.pointer (some ⟨x, 0, none⟩), .int .i64 (i : Int)] w fun e w' => e = .returned (.int .i64 0) ∧ RefNext F w w' x (s.back i) := by
  have Hok := Lib.hid H.1
  have HFl := Lib.hid H.2.1
  have Hok2 := Lib.hid (H.1.back hi)
  obtain ⟨c, hc⟩ : ∃ c, s.cp[i]? = some c := ⟨_, List.getElem?_eq_getElem hi⟩
  have hcl := H.1.cb c (List.mem_of_getElem? hc)
  have Hcb := Lib.hid hcl.2
  have Hgc := Lib.hid (show s.cp.getD i [] = c by rw [List.getD_eq_getElem?_getD, hc]; rfl)
  obtain ⟨st, wa, cp, wv, bs0, ws, rs, cv, Fz, M⟩ := H.state
  obtain ⟨h, hc5, rfl⟩ : ∃ h cap, cp = .slice (some ⟨h, 0, none⟩) s.cp.length cap := by
    rcases M.cp.2 with ⟨_, h0⟩ | ⟨g, cap, cur, h1, _⟩
    · omega
    · exact ⟨g, cap, h1⟩
  obtain ⟨cvi, hcv⟩ : ∃ u, cv[i]? = some u := ⟨_, List.getElem?_eq_getElem (by rw [M.cp.1, Nat.mul_one]; exact hi)⟩
  have Hcv := Lib.hid hcv
  have Hc := Lib.hid hc
  obtain ⟨N, hN⟩ : ∃ N, N = s.cp.length := ⟨_, rfl⟩
  have HN := Lib.hid hN
  rw [← hN] at M hi
  obtain ⟨g, cap, hst, _⟩ := M.st.slot H.1.n1 H.1.st
  obtain ⟨n, hn⟩ : ∃ n, n = s.st.length := ⟨_, rfl⟩
  have Hn := Lib.hid hn
  rw [← hn] at hst
  subst hst
  have Hcl := Lib.hid (show c.length = n by rw [hn]; exact hcl.1)
  have hnb : n ≤ 65536 := by rw [hn]; exact H.1.n2
  have HD := Lib.hid M
  have c5 := (RefAt.cells M.dv).2.2.2.2.2.1
  have hiN : (i : Int) < (N : Int) := by omega
  have hge : ¬ (N : Int) ≤ (i : Int) := by omega
  obtain ⟨hc, rfl⟩ : ∃ q, q = hc5 := ⟨_, rfl⟩
  clear H M hN hn hcl hcv
  go_enter Try.func52, Try.ntmps52
  go_wp2_with fail
  clear c5
  go_loopw [5] (fun jv wx => ∃ (k : Nat) (bs : List Value), k ≤ n ∧ jv = .int .i64 k ∧ XM F w wx x (.slice (some ⟨g, 0, none⟩) n cap) wa (.slice (some ⟨h, 0, none⟩) N hc) wv bs ws rs cv Fz { s with st := backL s.st c k }) (fun jv _ => n - (intOf jv).toNat)
  case atStart => exact ⟨0, bs0, by omega, rfl, HD.out⟩
  case round =>
    clear HD
    obtain ⟨k, bs, hk, rfl, hD⟩ := hrel
    have c0 := (RefAt.cells hD.dv).1
    by_cases hlt : k < n
    · have hki : (k : Int) < (n : Int) := by omega
      obtain ⟨s3, hs3⟩ : ∃ s3 : Dv, s3 = { s with st := backL s.st c k } := ⟨_, rfl⟩
      have hl3 : s3.st.length = s.st.length := by rw [hs3]; exact backL_len _ _ _
      have Hns := Lib.hid (show n = s3.st.length by rw [hl3]; exact Hn.out)
      have Hpi := Lib.hid (show k < s3.st.length by rw [← Hns.out]; exact hlt)
      have Hbl := Lib.hid (show ∀ b ∈ s3.st, Bl b by
        rw [hs3]
        exact backL_bl _ _ Hok.out.st Hcb.out (by rw [Hcl.out]; exact Hn.out) k (by rw [← Hn.out]; exact hk))
      obtain ⟨b, hbk⟩ : ∃ b, c[k]? = some b := ⟨_, List.getElem?_eq_getElem (by rw [Hcl.out]; exact hlt)⟩
      have Hpb := Lib.hid (Hcb.out b (List.mem_of_getElem? hbk))
      have Hnx := Lib.hid (show { s3 with st := s3.st.set k b } = { s with st := backL s.st c (k + 1) } by rw [hs3, backL, List.getD_eq_getElem?_getD, hbk]; rfl)
      have hcp3 : s3.cp = s.cp := by rw [hs3]
      rw [← hs3] at hD
      obtain ⟨es, himg, hz1, hz2⟩ := hD.ci i cvi c Hcv.out (by rw [hcp3]; exact Hc.out)
      obtain ⟨Q, qc, hcvi, hcell⟩ := himg.slot (by rw [Hcl.out]; omega) Hcb.out
      rw [Hcl.out] at hcvi
      obtain ⟨C, cc, k1, hO1, _⟩ := hcell k b hbk
      have kh : wr.cell? ⟨h, i, none⟩ = some (.slice (some ⟨Q, 0, none⟩) n qc) := by
        have hh := hD.cp
        rw [hcp3, ← HN.out] at hh
        rw [hh.cellAt i (by omega), Hcv.out, hcvi]
      have Hcs := Lib.hid (show ∀ W, Below wr.heap.size wr W → (fun W => W.cell? ⟨x, 0, none⟩ = some (.slice (some ⟨g, 0, none⟩) n cap) ∧ W.cell? ⟨x, 5, none⟩ = some (.slice (some ⟨h, 0, none⟩) N hc) ∧ W.cell? ⟨h, i, none⟩ = some (.slice (some ⟨Q, 0, none⟩) n qc) ∧ W.cell? ⟨Q, k, none⟩ = some (.slice (some ⟨C, 0, none⟩) 256 cc)) W from fun W hW => ⟨cell_below hW (RefAt.cells hD.dv).1, cell_below hW (RefAt.cells hD.dv).2.2.2.2.2.1, cell_below hW kh, cell_below hW k1⟩)
      obtain ⟨_, hG⟩ := own_typed hD.st.1 g rfl
      obtain ⟨_, hH⟩ := own_typed hD.cp h rfl
      have Hne := Lib.hid (show x ≠ g ∧ h ≠ g ∧ Q ≠ g from ⟨Blk.apart hD.dv hG (by decide), Blk.apart hH hG (by decide), fun e => hD.z1 g rfl (e ▸ hz1 Q (by rw [hcvi]; rfl))⟩)
      have HCp := Lib.hid (show ∀ u, Below wr.heap.size wr u → Calls Try.prog 42 #[.slice (some ⟨C, 0, none⟩) 256 cc] u fun e w' => ∃ v, e = .returned v ∧ OwnB w' u.heap.size 5 v b ∧ Below u.heap.size u w' from
        fun u hu => copy_any _ 256 cc b u (ownB_bytes (ownB_under hO1 hu) Hpb.out.1) (by omega))
      have Hck := Lib.hid (show ∀ (W : World) (bs : List Value), XM F w W x (.slice (some ⟨g, 0, none⟩) n cap) wa (.slice (some ⟨h, 0, none⟩) N hc) wv bs ws rs cv Fz s3 → ∃ Cz cz, W.cell? ⟨g, k, none⟩ = some (.slice (some ⟨Cz, 0, none⟩) 256 cz) ∧ True from fun W bs hM => by
        obtain ⟨g', c', e, hh⟩ := hM.st.slot (by have := Hpi.out; omega) Hbl.out
        injection e with e1 e2 e3
        injection e1 with e1
        injection e1 with e1
        subst e1
        obtain ⟨Cz, cz, h1, _⟩ := hh k _ (List.getElem?_eq_getElem Hpi.out)
        exact ⟨Cz, cz, h1, trivial⟩)
      have Hfk := Lib.hid (show ∀ (W : World) (bs : List Value), XM F w W x (.slice (some ⟨g, 0, none⟩) n cap) wa (.slice (some ⟨h, 0, none⟩) N hc) wv bs ws rs cv Fz s3 → W.frozen? ⟨g, k, none⟩ = false from fun W bs hM => by
        obtain ⟨_, hh⟩ := own_typed hM.st.1 g rfl
        exact hh.free k)
      have Hmd := Lib.hid hD.md.size
      have HD := Lib.hid hD
      clear hD himg hz1 hz2 hcvi hcell k1 kh hO1 hG hH hs3 hl3 hbk hcp3
      go_upto_region 6 with fail
      clear c0
      refine wp_region_held_drew (S := fun W => W.cell? ⟨x, 0, none⟩ = some (.slice (some ⟨g, 0, none⟩) n cap) ∧ W.cell? ⟨x, 5, none⟩ = some (.slice (some ⟨h, 0, none⟩) N hc) ∧ W.cell? ⟨h, i, none⟩ = some (.slice (some ⟨Q, 0, none⟩) n qc) ∧ W.cell? ⟨Q, k, none⟩ = some (.slice (some ⟨C, 0, none⟩) 256 cc)) (by kernel_rfl) (Hcs.out _ (nu_drew (nu_refl wr))) (fun hHeld => ?_)
      dsimp only [Array.replicate, List.replicate, List.size_toArray, List.length_cons, List.length_nil, Nat.reduceAdd] at hHeld ⊢
      have HD0 := Lib.hid (HD.out.below (nu_drew (nu_refl wr)))
      have Hb0 := Lib.hid (nu_drew (nu_refl wr))
      clear HD
      generalize wr.drew = u0 at *
      refine take_l (i := 0) (v := ?_) rfl (by kernel_rfl) (by kernel_rfl) (by kernel_rfl) (fun _ _ _ h => h) (Or.inl ⟨by rfl, ?_⟩) (by assumption) ?_
      case refine_2 => (intro _ _; go_simp; all_goals with_reducible rfl)
      simp only [Act.put, List.setIfInBounds_toArray, List.set_cons_zero, List.set_cons_succ]
      refine take_l (i := 1) (v := ?_) rfl (by kernel_rfl) (by kernel_rfl) (by kernel_rfl) (fun _ _ _ h => h) (Or.inl ⟨by rfl, ?_⟩) (by assumption) ?_
      case refine_2 => (intro _ _; go_simp; all_goals with_reducible rfl)
      simp only [Act.put, List.setIfInBounds_toArray, List.set_cons_zero, List.set_cons_succ]
      refine take_l (i := 2) (v := ?_) rfl (by kernel_rfl) (by kernel_rfl) (by kernel_rfl) (fun _ _ _ h => h) (Or.inl ⟨by rfl, ?_⟩) (by assumption) ?_
      case refine_2 => (intro _ _; go_simp; all_goals with_reducible rfl)
      simp only [Act.put, List.setIfInBounds_toArray, List.set_cons_zero, List.set_cons_succ]
      refine take_l (i := 3) rfl (by kernel_rfl) (by kernel_rfl) (by kernel_rfl) (fun _ _ _ h => h) (Or.inl ⟨by rfl, fun W hS => e_sl50 hS.1 (.tmp 28) rfl rfl⟩) (by assumption) ?_
      simp only [Act.put, List.setIfInBounds_toArray, List.set_cons_zero, List.set_cons_succ]
      refine take_l (i := 4) (v := ?_) rfl (by kernel_rfl) (by kernel_rfl) (by kernel_rfl) (fun _ _ _ h => h) (Or.inl ⟨by rfl, ?_⟩) (by assumption) ?_
      case refine_2 => (intro _ _; go_simp; all_goals with_reducible rfl)
      simp only [Act.put, List.setIfInBounds_toArray, List.set_cons_zero, List.set_cons_succ]
      refine take_l (i := 5) (v := ?_) rfl (by kernel_rfl) (by kernel_rfl) (by kernel_rfl) (fun _ _ _ h => h) (Or.inl ⟨by rfl, ?_⟩) (by assumption) ?_
      case refine_2 => (intro _ _; go_simp; all_goals with_reducible rfl)
      simp only [Act.put, List.setIfInBounds_toArray, List.set_cons_zero, List.set_cons_succ]
      refine take_l (i := 6) (v := ?_) rfl (by kernel_rfl) (by kernel_rfl) (by kernel_rfl) (fun _ _ _ h => h) (Or.inl ⟨by rfl, ?_⟩) (by assumption) ?_
      case refine_2 => (intro _ _; go_simp; all_goals with_reducible rfl)
      simp only [Act.put, List.setIfInBounds_toArray, List.set_cons_zero, List.set_cons_succ]
      refine take_l (i := 7) (v := ?_) rfl (by kernel_rfl) (by kernel_rfl) (by kernel_rfl) (fun _ _ _ h => h) (Or.inl ⟨by rfl, ?_⟩) (by assumption) ?_
      case refine_2 => (intro _ _; go_simp; all_goals with_reducible rfl)
      simp only [Act.put, List.setIfInBounds_toArray, List.set_cons_zero, List.set_cons_succ]
      refine take_l (i := 8) rfl (by kernel_rfl) (by kernel_rfl) (by kernel_rfl) (fun _ _ _ h => h) (Or.inl ⟨by rfl, fun W hS => e_sl59 hS.2.1 (.tmp 33) rfl rfl⟩) (by assumption) ?_
      simp only [Act.put, List.setIfInBounds_toArray, List.set_cons_zero, List.set_cons_succ]
      refine take_l (i := 9) (v := ?_) rfl (by kernel_rfl) (by kernel_rfl) (by kernel_rfl) (fun _ _ _ h => h) (Or.inl ⟨by rfl, ?_⟩) (by assumption) ?_
      case refine_2 => (intro _ _; go_simp; all_goals with_reducible rfl)
      simp only [Act.put, List.setIfInBounds_toArray, List.set_cons_zero, List.set_cons_succ]
      refine take_l (i := 10) (v := ?_) rfl (by kernel_rfl) (by kernel_rfl) (by kernel_rfl) (fun _ _ _ h => h) (Or.inl ⟨by rfl, ?_⟩) (by assumption) ?_
      case refine_2 => (intro _ _; go_simp; all_goals with_reducible rfl)
      simp only [Act.put, List.setIfInBounds_toArray, List.set_cons_zero, List.set_cons_succ]
      refine take_l (i := 11) rfl (by kernel_rfl) (by kernel_rfl) (by kernel_rfl) (fun _ _ _ h => h) (Or.inl ⟨by rfl, fun W hS => e_sl50 hS.2.2.1 (.tmp 36) rfl rfl⟩) (by assumption) ?_
      simp only [Act.put, List.setIfInBounds_toArray, List.set_cons_zero, List.set_cons_succ]
      refine take_l (i := 12) (v := ?_) rfl (by kernel_rfl) (by kernel_rfl) (by kernel_rfl) (fun _ _ _ h => h) (Or.inl ⟨by rfl, ?_⟩) (by assumption) ?_
      case refine_2 => (intro _ _; go_simp; all_goals with_reducible rfl)
      simp only [Act.put, List.setIfInBounds_toArray, List.set_cons_zero, List.set_cons_succ]
      refine take_l (i := 13) (v := ?_) rfl (by kernel_rfl) (by kernel_rfl) (by kernel_rfl) (fun _ _ _ h => h) (Or.inl ⟨by rfl, ?_⟩) (by assumption) ?_
      case refine_2 => (intro _ _; go_simp; all_goals with_reducible rfl)
      simp only [Act.put, List.setIfInBounds_toArray, List.set_cons_zero, List.set_cons_succ]
      refine take_l (i := 14) rfl (by kernel_rfl) (by kernel_rfl) (by kernel_rfl) (fun _ _ _ h => h) (Or.inl ⟨by rfl, fun W hS => e_sl22 hS.2.2.2 (.tmp 39) rfl rfl⟩) (by assumption) ?_
      simp only [Act.put, List.setIfInBounds_toArray, List.set_cons_zero, List.set_cons_succ]
      clear hHeld
      refine wpAnyH_ready (rs := [15]) (by kernel_rfl) (by simp) ?_
      refine cons_l rfl (fun K hK => ?_) AllReadyH.nil
      go_simp
      go_at_call 42
      refine (HCp.out u0 Hb0.out).mono ?_
      rintro e u1 ⟨v, rfl, hO, hb⟩
      obtain ⟨C2, cc2, rfl, hC, hCl, _⟩ := ownB_slice hO (by rw [Hpb.out.1]; omega)
      rw [Hpb.out.1] at hO
      rw [Hpb.out.1]
      have HO1 := Lib.hid hO
      have HC := Lib.hid (show u0.heap.size ≤ C2 ∧ wr.heap.size ≤ C2 from ⟨hC, Nat.le_trans Hb0.out.size hC⟩)
      have HD1 := Lib.hid (HD0.out.below hb)
      have HS1 := Lib.hid (Hcs.out _ (nu_trans Hb0.out hb))
      have Hlt1 := Lib.hid (HD0.out.st_lt)
      have Hz1 := Lib.hid (HD0.out.fz_lt HFl.out)
      clear hO hC hCl hb HD0 Hb0
      go_wp2_with fail
      refine hK.out _ _ HS1.out (fun hHeld => ?_)
      clear hK K
      simp only [Act.put, List.setIfInBounds_toArray, List.set_cons_zero, List.set_cons_succ]
      refine take_l (i := 16) (v := ?_) rfl (by kernel_rfl) (by kernel_rfl) (by kernel_rfl) (fun _ _ _ h => h) (Or.inl ⟨by rfl, ?_⟩) (by assumption) ?_
      case refine_2 => (intro _ _; go_simp; all_goals with_reducible rfl)
      simp only [Act.put, List.setIfInBounds_toArray, List.set_cons_zero, List.set_cons_succ]
      clear hHeld
      refine wpAnyH_ready (rs := [17]) (by kernel_rfl) (by simp) ?_
      refine cons_l rfl (fun K hK => ?_) AllReadyH.nil
      have HN := Lib.hid (HD1.out.setSt (v := .slice (some ⟨C2, 0, none⟩) 256 cc2) (i := k) Hpi.out (by rw [Hns.out]) (own_mono HO1.out (Nat.zero_le _)) (fun j hj e => by
        injection hj with hj
        have hj : C2 = j := hj
        have := Hz1.out j e
        have := HC.out.1
        omega) (fun j hj u hu e => by
        injection hj with hj
        have hj : C2 = j := hj
        have := Hlt1.out u hu j e
        have := HC.out.1
        omega) (fun j hj => by
        injection hj with hj
        subst hj
        exact .inr ⟨Nat.le_trans Hmd.out HC.out.2, (HO1.out.1.lt C2 rfl).2⟩))
      have hgg : u1.grownBy (u1.setCell ⟨g, k, none⟩ (.slice (some ⟨C2, 0, none⟩) 256 cc2)) (some g) := gb_set (gb_refl u1 (some g)) (p := ⟨g, k, none⟩) (.inl rfl) _
      have HS2 := Lib.hid (show (fun W => W.cell? ⟨x, 0, none⟩ = some (.slice (some ⟨g, 0, none⟩) n cap) ∧ W.cell? ⟨x, 5, none⟩ = some (.slice (some ⟨h, 0, none⟩) N hc) ∧ W.cell? ⟨h, i, none⟩ = some (.slice (some ⟨Q, 0, none⟩) n qc) ∧ W.cell? ⟨Q, k, none⟩ = some (.slice (some ⟨C, 0, none⟩) 256 cc)) (u1.setCell ⟨g, k, none⟩ (.slice (some ⟨C2, 0, none⟩) 256 cc2)) from ⟨cell_off hgg HS1.out.1 Hne.out.1, cell_off hgg HS1.out.2.1 Hne.out.1, cell_off hgg HS1.out.2.2.1 Hne.out.2.1, cell_off hgg HS1.out.2.2.2 Hne.out.2.2⟩)
      obtain ⟨Cz, cz, ck, _⟩ := Hck.out u1 _ HD1.out
      have fk : u1.frozen? ⟨g, k, none⟩ = false := Hfk.out u1 _ HD1.out
      clear HD1 HO1 HC Hlt1 Hz1 hgg HS1
      go_simp
      go_wp2_with fail
      refine hK.out _ _ HS2.out (fun hHeld => ?_)
      clear hK K hHeld HS2
      simp only [Act.put, List.setIfInBounds_toArray, List.set_cons_zero, List.set_cons_succ]
      refine wpAnyH_done (by kernel_rfl) ?_ _
      go_wp2_with fail
      rw [Hnx.out] at HN
      go_roundw
      case rel => first | exact ⟨k + 1, _, by omega, by go_num, HN.out⟩ | ((repeat apply Exists.intro); exact ⟨⟨k + 1, _, by omega, by go_num, HN.out⟩, rfl⟩)
      case measure => simp [intOf]; omega
    · obtain rfl : k = n := by omega
      have hki : ¬ (k : Int) < (k : Int) := by omega
      have HF := Lib.hid hD.dropWa
      obtain ⟨ao, ac, rfl⟩ := own_len hD.wa.1
      have c1 := (RefAt.cells hD.dv).2.1
      have f1 : wr.frozen? ⟨x, 1, none⟩ = false := Blk.free hD.dv 1
      clear hD
      go_wp2_with fail
      go_ret
      refine ⟨rfl, ?_⟩
      have hall : backL s.st c k = c := by rw [Hn.out]; exact backL_all _ _ (by rw [Hcl.out]; exact Hn.out)
      have e := Hok2.out
      unfold Dv.back at e ⊢
      rw [Hgc.out] at e ⊢
      have hh := HF.out.next (by rw [hall]; exact e) HFl.out
      rw [hall] at hh
      exact hh
end
end Go.Proofs.Ytjmghpoknlffiaa

namespace Go.Proofs.Ytjmghpoknlffiaa

/-- The first j of l; the others are noughts. -/
def fillTo (l : List Nat) (n j : Nat) : List Nat := l.take j ++ List.replicate (n - j) 0
theorem fillTo_zero (l : List Nat) (n : Nat) : fillTo l n 0 = List.replicate n 0 := by simp [fillTo]
theorem fillTo_all (l : List Nat) (n : Nat) (h : l.length = n) : fillTo l n n = l := by
  unfold fillTo
  rw [List.take_of_length_le (by omega), Nat.sub_self]
  simp
theorem fillTo_length (l : List Nat) (n j : Nat) (h : l.length = n) (hj : j ≤ n) : (fillTo l n j).length = n := by
  unfold fillTo
  rw [List.length_append, List.length_take, List.length_replicate]
  omega
theorem fillTo_at (l : List Nat) (n j : Nat) (h : l.length = n) (hj : j < n) : (fillTo l n j)[j]? = some 0 := by
  unfold fillTo
  rw [List.getElem?_append_right (by rw [List.length_take]; omega), List.length_take, show j - min j l.length = 0 by omega, List.getElem?_replicate]
  simp
  omega
theorem fillTo_succ (l : List Nat) (n j x : Nat) (h : l.length = n) (hj : j < n) (hx : l[j]? = some x) : (fillTo l n j).set j x = fillTo l n (j + 1) := by
  unfold fillTo
  rw [List.set_append, if_neg (by rw [List.length_take]; omega), List.length_take, show j - min j l.length = 0 by omega, show n - j = (n - (j + 1)) + 1 by omega, List.replicate_succ, List.set_cons_zero, List.take_add_one, hx]
  simp
theorem arr_set (l : List Nat) (j x : Nat) : ((l.map vb).toArray).setIfInBounds j (vb x) = ((l.set j x).map vb).toArray := by
  rw [List.map_set]
  simp
theorem arr_at (l : List Nat) (j x : Nat) (hx : l[j]? = some x) : ((l.map vb).toArray)[j]? = some (vb x) := by
  rw [List.getElem?_toArray, List.getElem?_map, hx]
  rfl
theorem arr_size (l : List Nat) : ((l.map vb).toArray).size = l.length := by simp
end Go.Proofs.Ytjmghpoknlffiaa

namespace Go.Proofs.Ytjmghpoknlffiaa
open Go.ChangeShapes Go.WideShapes Go.ChangeAt Go.RowKit

theorem lent_bytes {w : World} {g len : Nat} {xs : List Nat} (h : Blk w g 5 (lentCells xs)) (hl : xs.length = len) (hx : ∀ x ∈ xs, x < 256) : BytesIn w (some ⟨g, 0, none⟩) len (len + 3) xs := by
  refine ⟨⟨hl, fun y hy => wf_u8_of (hx y hy), fun _ => ⟨g, 0, rfl, Blk.lt h, fun j n hn => ?_⟩⟩, fun e => by cases e⟩
  rw [Nat.zero_add]
  refine h.at j _ ?_
  have hj : j < xs.length := (List.getElem?_eq_some_iff.1 hn).1
  exact arr_at (xs ++ [201, 202, 203]) j n (by rw [List.getElem?_append_left hj]; exact hn)
theorem same_is {a b : Option Addr} {la lb ca cb : Nat} {xs ys : List Nat} {w : World} (v : Bool) (hv : decide (xs = ys) = v) (ha : IntsIn w .u8 a la xs) (hb : IntsIn w .u8 b lb ys) (hla : la ≤ 9223372036854775807) (hlb : lb ≤ 9223372036854775807) :
    Calls Try.prog 19 #[.slice a la ca, .slice b lb cb] w fun e w' => e = .returned (.bool v) ∧ ∃ n, w' = w.drewN n := by
  rw [← hv]
  exact same_any a b la lb ca cb xs ys w ha hb hla hlb
end Go.Proofs.Ytjmghpoknlffiaa

namespace Go.Proofs.Ytjmghpoknlffiaa
open Go.ChangeShapes Go.WideShapes Go.ChangeAt Go.RowKit
set_option linter.unusedSimpArgs false

theorem arrg_set (f : Nat → Value) (l : List Nat) (j x : Nat) : ((l.map f).toArray).setIfInBounds j (f x) = ((l.set j x).map f).toArray := by
  rw [List.setIfInBounds_toArray, List.map_set]
theorem arrg_at (f : Nat → Value) (l : List Nat) (j x : Nat) (hx : l[j]? = some x) : ((l.map f).toArray)[j]? = some (f x) := by
  rw [List.getElem?_toArray, List.getElem?_map, hx]; rfl
def fullL (xs : List Nat) : List Nat := torn (List.replicate 256 0) xs (min xs.length 256)
theorem torn_len {old fresh : List Nat} {k : Nat} (h1 : old.length = 256) (hk : k ≤ fresh.length) (hk2 : k ≤ 256) : (torn old fresh k).length = 256 := by
  unfold torn
  rw [List.length_append, List.length_take, List.length_drop, h1]
  omega
theorem torn_step {old fresh : List Nat} {k x : Nat} (h1 : old.length = 256) (hx : fresh[k]? = some x) (hk2 : k < 256) : (torn old fresh k).set k x = torn old fresh (k + 1) := by
  have hk : k < fresh.length := (List.getElem?_eq_some_iff.1 hx).1
  have hl : (fresh.take k).length = k := by rw [List.length_take]; omega
  unfold torn
  rw [List.set_append_right _ _ (by omega), hl, Nat.sub_self, List.take_add_one, hx, List.drop_eq_getElem_cons (show k < old.length by omega), List.set_cons_zero]
  simp
theorem torn_old {old fresh : List Nat} {k : Nat} (h1 : old.length = 256) (hk : k ≤ fresh.length) (hk2 : k < 256) : (torn old fresh k)[k]? = old[k]? := by
  have hl : (fresh.take k).length = k := by rw [List.length_take]; omega
  unfold torn
  rw [List.getElem?_append_right (by omega), hl, Nat.sub_self, List.getElem?_drop, Nat.add_zero]
theorem fullL_bl {xs : List Nat} (h : ∀ x ∈ xs, x < 256) : Bl (fullL xs) := by
  refine ⟨torn_len (List.length_replicate ..) (Nat.min_le_left _ _) (Nat.min_le_right _ _), fun x hx => ?_⟩
  rcases List.mem_append.1 hx with hx | hx
  · exact h x (List.mem_of_mem_take hx)
  · rw [(List.mem_replicate.1 (List.mem_of_mem_drop hx)).2]; omega
theorem mk_256 : ∀ W : World, (Instr.makeSlice 22 (.int .i64 256) (.int .i64 256)).run Try.prog W = .ok (.slice (some ⟨W.heap.size, 0, none⟩) 256 256) (W.alloc (.cells ((List.replicate 256 0).map vb).toArray 5)) := fun W => by
  obtain ⟨i0, hi, hz0, hz1, hz2⟩ := info_parts info_u8
  have h := run_make (P := Try.prog) W 22 5 i0 (.int .u8 0) Try.underlying22 hi hz0 .i64 .i64 256 256 (by omega) (by omega) (by rw [hz2]; omega) (by omega)
  rw [h, hz1]
  congr 3
  apply Array.toList_inj.1
  show (madeCells #[Value.int .u8 0] (256 * 1)).toList = _
  rw [toList_madeCells_one, List.map_replicate]
  rfl

set_option maxRecDepth 100000 in
set_option maxHeartbeats 4000000 in
theorem full_any (a : Option Addr) (len cap : Nat) (xs : List Nat) (w : World) (hx : BytesIn w a len cap xs) (hlen : len ≤ 9223372036854775807) :
    Calls Try.prog 11 #[.slice a len cap] w fun e w' => ∃ G, e = .returned (.slice (some ⟨G, 0, none⟩) 256 256) ∧ w.heap.size ≤ G ∧ Blk w' G 5 ((fullL xs).map vb).toArray ∧ Below w.heap.size w w' := by
  have hmk := mk_256
  obtain ⟨Z, hZ⟩ : ∃ Z, Z = List.replicate 256 0 := ⟨_, rfl⟩
  have HZ := Lib.hid hZ
  have HZl := Lib.hid (show Z.length = 256 by rw [hZ]; exact List.length_replicate ..)
  have HZ0 := Lib.hid (show ∀ k, k < 256 → Z[k]? = some 0 from fun k hk => by rw [hZ, List.getElem?_replicate, if_pos hk])
  rw [← hZ] at hmk
  have Hx := Lib.hid hx
  have Hl := Lib.hid (show xs.length = len from hx.1.1)
  have hal := nu_alloc (nu_refl w) (.cells (Z.map vb).toArray 5)
  have HB := Lib.hid (Blk.made w 5 (Z.map vb).toArray)
  clear hx hZ
  go_enter Try.func11, Try.ntmps11
  go_upto_region 2 with fail
  change Code.wp _ _ _ _ (w.alloc (.cells (Z.map vb).toArray 5))
  have Hal := Lib.hid hal
  clear hal hmk
  generalize w.alloc (.cells (Z.map vb).toArray 5) = w1 at *
  obtain ⟨G, hG⟩ : ∃ G, G = w.heap.size := ⟨_, rfl⟩
  have HGw := Lib.hid (show w.heap.size ≤ G by omega)
  rw [← hG] at HB
  rw [← hG]
  clear hG
  have HB0 := Lib.hid (show Blk w1 G 5 ((torn Z xs 0).map vb).toArray from HB.out)
  clear HB
  go_wp2_with fail
  go_loopw [4] (fun i wr => ∃ k : Nat, k ≤ len ∧ k ≤ 256 ∧ i = .int .i64 k ∧ Blk wr G 5 ((torn Z xs k).map vb).toArray ∧ Below w.heap.size w wr) (fun i _ => 256 - (intOf i).toNat)
  case atStart => exact ⟨0, by omega, by omega, rfl, HB0.out, Hal.out⟩
  case round =>
    clear HB0 Hal
    obtain ⟨k, hk, hk2, rfl, hB, hn⟩ := hrel
    by_cases hkl : k < len
    · have hki : (k : Int) < (len : Int) := by omega
      by_cases hk6 : k < 256
      · have hki6 : (k : Int) < 256 := by omega
        obtain ⟨b1, o1, x, ha, _, hxk, _, hcx⟩ := (Hx.out.keep hn).1.elem k hkl
        subst ha
        have hold := torn_old (fresh := xs) HZl.out (by rw [Hl.out]; exact hk) hk6
        rw [HZ0.out k hk6] at hold
        have cB : wr.cell? ⟨G, k, none⟩ = some (.int .u8 ((0 : Nat) : Int)) := hB.at k _ (arrg_at vb _ k 0 hold)
        have fB := hB.free k
        have hset := hB.put k (vb x)
        rw [arrg_set, torn_step HZl.out hxk hk6] at hset
        have HB1 := Lib.hid hset
        have hn1 := nu_set hn (p := ⟨G, k, none⟩) HGw.out (vb x)
        simp only [vb] at HB1 hn1
        clear hB hn hold hset hxk
        go_wp2_with fail
        clear cB fB hcx
        generalize wr.setCell ⟨G, k, none⟩ (.int .u8 (x : Int)) = w7 at *
        go_roundw
        case rel => first | exact ⟨k + 1, by omega, by omega, by go_num, HB1.out, hn1⟩ | ((repeat apply Exists.intro); exact ⟨⟨k + 1, by omega, by omega, by go_num, HB1.out, hn1⟩, rfl⟩)
        case measure => simp [intOf]; omega
      · have hki6 : ¬ (k : Int) < 256 := by omega
        have HF := Lib.hid (show Blk wr G 5 ((fullL xs).map vb).toArray from by
          rw [fullL, ← HZ.out, show min xs.length 256 = k by rw [Hl.out]; omega]
          exact hB)
        clear hB
        go_wp2_with fail
        go_ret
        exact ⟨_, rfl, HGw.out, HF.out, hn⟩
    · have hki : ¬ (k : Int) < (len : Int) := by omega
      have HF := Lib.hid (show Blk wr G 5 ((fullL xs).map vb).toArray from by
        rw [fullL, ← HZ.out, show min xs.length 256 = k by rw [Hl.out]; omega]
        exact hB)
      clear hB
      go_wp2_with fail
      go_ret
      exact ⟨_, rfl, HGw.out, HF.out, hn⟩
theorem bytes_blk {w : World} {G : Nat} {xs : List Nat} {n : Nat} (h : Blk w G 5 (xs.map vb).toArray) (hl : xs.length = n) (hx : ∀ x ∈ xs, x < 256) : BytesIn w (some ⟨G, 0, none⟩) n n xs := by
  refine ⟨⟨hl, fun y hy => wf_u8_of (hx y hy), fun _ => ⟨G, 0, rfl, h.lt, fun j n hn => ?_⟩⟩, fun e => by cases e⟩
  rw [Nat.zero_add]
  exact h.at j _ (arrg_at vb _ j n hn)
theorem bytes_256 {w : World} {G : Nat} {t : TypeId} {xs : List Nat} (h : Blk w G t (xs.map vb).toArray) (hb : Bl xs) : BytesIn w (some ⟨G, 0, none⟩) 256 256 xs := by
  refine ⟨⟨hb.1, fun y hy => wf_u8_of (hb.2 y hy), fun _ => ⟨G, 0, rfl, h.lt, fun j n hn => ?_⟩⟩, fun e => by cases e⟩
  rw [Nat.zero_add]
  exact h.at j _ (arrg_at vb _ j n hn)
theorem not_grown {F : Nat → Prop} {w w' : World} {k : Nat} (h : ¬ F k) (hk : k < w.heap.size) : ¬ Grown F w w' k := fun e => by
  rcases e with e | e
  · exact h e
  · omega
end Go.Proofs.Ytjmghpoknlffiaa

namespace Go.Proofs.Ytjmghpoknlffiaa
open Go.ChangeShapes Go.WideShapes Go.ChangeAt Go.RowKit
set_option linter.unusedSimpArgs false

section
variable {F : Nat → Prop} {w1 w : World} {d : Nat} {s : Dv}
theorem write_at (N : DevNext F w1 w d s) (i : Nat) (hi : i < s.st.length) (ho : s.off = false) (ha : spentOff s.ar = false) {G : Nat} {b : List Nat} (hG : Blk w1 G 5 (b.map vb).toArray) (hb : Bl b) (hn : ¬ F G) (hwl : s.wa.length ≤ 1000000000) (hrl : s.wr.length ≤ 1000000000) :
    Calls Try.prog 12 #[.pointer (some ⟨d, 0, none⟩), .int .i64 (i : Int), .slice (some ⟨G, 0, none⟩) 256 256] w fun e w' => e = .returned (.int .i64 0) ∧ DevNext F w1 w' d (s.put i b).spent := by
  refine (writeD_good N.1 i hi ho _ 256 b ((bytes_blk hG hb.1 hb.2).mods N.2 (fun ad had => by injection had with had; rw [← had]; exact hn)) (fun ad had => by injection had with had; rw [← had]; exact not_grown hn hG.lt) hwl hrl).mono ?_
  rintro e w' ⟨rfl, h⟩
  exact ⟨by rw [ha]; rfl, N.trans h⟩
theorem flush_at (N : DevNext F w1 w d s) (ho : s.off = false) (ha : spentOff s.ar = false) (hwl : s.wa.length ≤ 1000000000) :
    Calls Try.prog 13 #[.pointer (some ⟨d, 0, none⟩)] w fun e w' => e = .returned (.int .i64 0) ∧ DevNext F w1 w' d s.spent.flush :=
  (flushD_go N.1 ho ha hwl).mono fun e w' h => ⟨h.1, N.trans h.2⟩
theorem crash_at (N : DevNext F w1 w d s) : Calls Try.prog 14 #[.pointer (some ⟨d, 0, none⟩)] w fun e w' => e = .returned (.tuple #[]) ∧ DevNext F w1 w' d s.crash :=
  (crashD N.1).mono fun e w' h => ⟨h.1, N.trans h.2⟩
theorem DevNext.trans2 {a a' b : World} {s1 s2 : Dv} (h : DevNext F w1 a d s1) (hb : Below a.heap.size a a') (h' : DevNext (Grown F w1 a) a' b d s2) : DevNext F w1 b d s2 :=
  ⟨h'.1.mono (fun k hk => by
    rcases hk with (hk | hk) | hk
    · exact .inl hk
    · exact .inr ⟨hk.1, Nat.lt_of_lt_of_le hk.2 (Nat.le_trans hb.size h'.2.size)⟩
    · exact .inr ⟨Nat.le_trans h.2.size (Nat.le_trans hb.size hk.1), hk.2⟩) (fun k hk => by
    rcases hk with hk | hk
    · exact h'.1.2.1 k (.inl (.inl hk))
    · omega), (h.2.below hb).trans h'.2 (fun k hk => by
    rcases hk with hk | hk
    · exact .inl hk
    · exact .inr hk.1)⟩
/-- The power comes back, with fates that lie in new memory. -/
theorem on_new {w2 : World} (N : DevNext F w1 w d s) (hb : Below w.heap.size w w2) (ho : s.off = true) {a : Option Addr} {len : Nat} (cap : Nat) {fs : List Int} (hf : NumsIn w2 a len fs) (hout : ∀ ad, a = some ad → ¬ Grown F w1 w ad.block) (hlen : len ≤ 9223372036854775807) (hwl : s.wa.length ≤ 1000000000) :
    Calls Try.prog 17 #[.pointer (some ⟨d, 0, none⟩), .slice a len cap] w2 fun e w' => e = .returned (.tuple #[]) ∧ DevNext F w1 w' d (s.on fs) :=
  (onD_down (N.1.below hb) ho a len cap fs hf (fun _ => hout) hlen hwl).mono fun e w' h => ⟨h.1, N.trans2 hb h.2⟩
theorem read_at (N : DevNext F w1 w d s) (i : Nat) (hi : i < s.st.length) (ho : s.off = false) (hwl : s.wa.length ≤ 1000000000) {D : List Nat} (hD : s.now i = D) : Calls Try.prog 15 #[.pointer (some ⟨d, 0, none⟩), .int .i64 (i : Int)] w fun e w' =>
    ∃ G, e = .returned (.tuple #[.slice (some ⟨G, 0, none⟩) 256 256, .int .i64 0]) ∧ w.heap.size ≤ G ∧ BytesIn w' (some ⟨G, 0, none⟩) 256 256 D ∧ DevNext F w1 w' d s ∧ Below w.heap.size w w' ∧ Blk w' G 73 (D.map vb).toArray := by
  refine (readD_good N.1 i hi ho hwl).mono ?_
  rintro e w' ⟨G, rfl, h1, h2, h3⟩
  rw [hD] at h2
  exact ⟨G, rfl, h1, bytes_256 h2 (by rw [← hD]; exact N.1.1.now hi), N.then_below h3, h3, h2⟩
/-- A slice of one int, just made. -/
theorem nums_one (w : World) (v : Int) (hv : -9223372036854775808 ≤ v ∧ v ≤ 9223372036854775807) : NumsIn (w.alloc (.cells #[.int .i64 v] 3)) (some ⟨w.heap.size, 0, none⟩) 1 [v] :=
  ⟨rfl, fun x hx => by rw [List.mem_singleton.1 hx]; exact hv, fun _ => ⟨w.heap.size, 0, rfl, by simp, fun j x hx => by
    cases j with
    | zero => injection hx with hx; subst hx; exact (Blk.made w 3 #[.int .i64 v]).at 0 _ rfl
    | succ j => cases hx⟩⟩
theorem alloc_out (N : DevNext F w1 w d s) (o : Obj) : DevNext F w1 (w.alloc o) d s ∧ True := ⟨N.then_below (nu_alloc (nu_refl w) o), trivial⟩
end
theorem awk_now (A B : List Nat) : (((((((Dv.new 4).put 3 A).spent.spent.flush).put 3 B).spent).crash).on [0]).now 3 = A := rfl
theorem awk_co (A B : List Nat) : (((((((Dv.new 4).put 3 A).spent.spent.flush).put 3 B).spent).crash).on [0]).co = 3 := rfl
theorem bytes_made (w : World) (xs : List Nat) (hx : ∀ x ∈ xs, x < 256) (cs : Array Value) (hc : cs = (xs.map vb).toArray) (n : Nat) (hn : xs.length = n) : BytesIn (w.alloc (.cells cs 5)) (some ⟨w.heap.size, 0, none⟩) n n xs := by
  subst hc
  exact bytes_blk (Blk.made w 5 _) hn hx

set_option maxRecDepth 100000 in
set_option maxHeartbeats 8000000 in
theorem awake10 (w : World) : Calls Try.prog 20 #[] w fun e w' => e = .returned (.bool true) ∧ Below w.heap.size w w' := by
  have HNw := Lib.hid (devNew_any 4 (by omega) (by omega) w)
  go_enter Try.func20, Try.ntmps20
  go_wp2_with fail
  refine HNw.out.mono ?_
  rintro e w1 ⟨d, rfl, F, hR, hF, hb⟩
  have HR := Lib.hid hR
  have HF := Lib.hid hF
  have Hn1 := Lib.hid hb
  clear hR hF hb HNw
  have H1 := Lib.hid (bytes_made w1 [1] (by decide) #[.int .u8 1] rfl 1 rfl)
  have hal1 := nu_alloc (nu_refl w1) (.cells #[.int .u8 1] 5)
  have Hal1 := Lib.hid hal1
  clear hal1
  obtain ⟨A, hA⟩ : ∃ A, A = fullL [1] := ⟨_, rfl⟩
  have HAb := Lib.hid (show Bl A by rw [hA]; exact fullL_bl (by decide))
  obtain ⟨B, hB⟩ : ∃ B, B = fullL [2] := ⟨_, rfl⟩
  have HBb := Lib.hid (show Bl B by rw [hB]; exact fullL_bl (by decide))
  have HFa := Lib.hid (full_any _ 1 1 [1] _ H1.out (by omega))
  rw [← hA] at HFa
  have HB2 := Lib.hid hB
  clear hA hB
  go_wp2_with fail
  refine HFa.out.mono ?_
  rintro e w2 ⟨Ga, rfl, hGa, hBa, hb⟩
  have HGa := Lib.hid (And.intro (show w1.heap.size ≤ Ga from Nat.le_trans Hal1.out.size hGa) hBa)
  have Hb2 := Lib.hid (nu_trans Hal1.out hb)
  have H2 := Lib.hid (bytes_made w2 [2] (by decide) #[.int .u8 2] rfl 1 rfl)
  have Hal2 := Lib.hid (nu_alloc (nu_refl w2) (.cells #[.int .u8 2] 5))
  have HFb := Lib.hid (full_any _ 1 1 [2] _ H2.out (by omega))
  rw [← HB2.out] at HFb
  clear hGa hBa hb HFa H1 Hal1
  go_wp2_with fail
  refine HFb.out.mono ?_
  rintro e w3 ⟨Gb, rfl, hGb, hBb, hb⟩
  have hb3 := nu_trans Hal2.out hb
  have HGb := Lib.hid (And.intro (show w1.heap.size ≤ Gb from Nat.le_trans (Nat.le_trans Hb2.out.size Hal2.out.size) hGb) hBb)
  have HGa3 := Lib.hid (And.intro HGa.out.1 (HGa.out.2.below hb3 HGa.out.2.lt))
  have Hb3 := Lib.hid (nu_trans Hb2.out hb3)
  have HnF := Lib.hid (show ¬ F Ga ∧ ¬ F Gb from ⟨fun h => by have := HR.out.2.1 _ h; have := HGa.out.1; omega, fun h => by have := HR.out.2.1 _ h; have := HGb.out.1; omega⟩)
  have HN0 := Lib.hid (DevNext.refl (HR.out.below Hb3.out))
  have Hn3 := Lib.hid (nu_trans Hn1.out Hb3.out)
  have HFw := Lib.hid HF.out
  clear hGb hBb hb hb3 HFb H2 Hal2 HGa HR Hb2 Hb3 HF Hn1 HB2
  obtain ⟨s0, hs0⟩ : ∃ s0, s0 = Dv.new 4 := ⟨_, rfl⟩
  rw [← hs0] at HN0
  have HW := Lib.hid (write_at HN0.out 3 (by rw [hs0]; decide) (by rw [hs0]; rfl) (by rw [hs0]; rfl) HGa3.out.2 HAb.out HnF.out.1 (by rw [hs0]; decide) (by rw [hs0]; decide))
  have Hs0 := Lib.hid hs0
  clear hs0 HN0
  go_wp2_with fail
  refine HW.out.mono ?_
  rintro e w4 ⟨rfl, hN⟩
  obtain ⟨s1, hs1⟩ : ∃ s1, s1 = (s0.put 3 A).spent := ⟨_, rfl⟩
  rw [← hs1] at hN
  rw [Hs0.out] at hs1
  have HFl := Lib.hid (flush_at hN (by rw [hs1]; rfl) (by rw [hs1]; rfl) (by rw [hs1]; show 1 ≤ 1000000000; omega))
  have Hs1 := Lib.hid hs1
  clear hs1 hN HW Hs0
  go_wp2_with fail
  refine HFl.out.mono ?_
  rintro e w5 ⟨rfl, hN⟩
  obtain ⟨s2, hs2⟩ : ∃ s2, s2 = s1.spent.flush := ⟨_, rfl⟩
  rw [← hs2] at hN
  rw [Hs1.out] at hs2
  have HW := Lib.hid (write_at hN 3 (by rw [hs2]; show 3 < 4; omega) (by rw [hs2]; rfl) (by rw [hs2]; rfl) HGb.out.2 HBb.out HnF.out.2 (by rw [hs2]; show 0 ≤ 1000000000; omega) (by rw [hs2]; show 1 ≤ 1000000000; omega))
  have Hs2 := Lib.hid hs2
  clear hs2 hN HFl Hs1
  go_wp2_with fail
  refine HW.out.mono ?_
  rintro e w6 ⟨rfl, hN⟩
  obtain ⟨s3, hs3⟩ : ∃ s3, s3 = (s2.put 3 B).spent := ⟨_, rfl⟩
  rw [← hs3] at hN
  rw [Hs2.out] at hs3
  have HC := Lib.hid (crash_at hN)
  have Hs3 := Lib.hid hs3
  clear hs3 hN HW Hs2
  go_wp2_with fail
  refine HC.out.mono ?_
  rintro e w7 ⟨rfl, hN⟩
  obtain ⟨s4, hs4⟩ : ∃ s4, s4 = s3.crash := ⟨_, rfl⟩
  rw [← hs4] at hN
  rw [Hs3.out] at hs4
  have hal := nu_alloc (nu_refl w7) (.cells #[.int .i64 0] 3)
  have HOn := Lib.hid (on_new hN hal (by rw [hs4]; rfl) 1 (nums_one w7 0 (by decide)) (fun ad had => by
    injection had with had
    rw [← had]
    intro e
    have := hN.1.2.1 _ e
    exact Nat.lt_irrefl _ this) (by omega) (by rw [hs4]; show 1 ≤ 1000000000; omega))
  have Hs4 := Lib.hid hs4
  clear hs4 hN HC Hs3 hal
  go_wp2_with fail
  refine HOn.out.mono ?_
  rintro e w8 ⟨rfl, hN⟩
  obtain ⟨s5, hs5⟩ : ∃ s5, s5 = s4.on [0] := ⟨_, rfl⟩
  rw [← hs5] at hN
  rw [Hs4.out] at hs5
  have HRd := Lib.hid (read_at hN 3 (by rw [hs5]; show 3 < 4; omega) (by rw [hs5]; rfl) (by rw [hs5]; show 0 ≤ 1000000000; omega) (show s5.now 3 = A by rw [hs5]; exact awk_now A B))
  have Hco := Lib.hid (show s5.co = 3 by rw [hs5]; exact awk_co A B)
  clear hs5 hN HOn Hs4
  go_wp2_with fail
  refine HRd.out.mono ?_
  rintro e w9 ⟨G, rfl, _, hG, hN, _, _⟩
  have HSm := Lib.hid (same_is (w := w9) (ca := 256) (cb := 256) true (by simp) hG.1 ((bytes_blk HGa3.out.2 HAb.out.1 HAb.out.2).mods hN.2 (fun ad had => by injection had with had; rw [← had]; exact HnF.out.1)).1 (by omega) (by omega))
  have HN := Lib.hid hN
  clear hG hN HRd
  go_wp2_with fail
  refine HSm.out.mono ?_
  rintro e w10 ⟨rfl, n, rfl⟩
  have HN2 := Lib.hid (HN.out.then_below (nu_drewN (nu_refl w9) n))
  generalize w9.drewN n = w10 at *
  have HCo := Lib.hid (count_any HN2.out.1)
  rw [Hco.out] at HCo
  clear HN HSm
  go_wp2_with fail
  refine HCo.out.mono ?_
  rintro e w' ⟨rfl, rfl⟩
  have Hn := Lib.hid (HN2.out.2.to_below Hn3.out.size HFw.out)
  have hnn : Below w.heap.size w w10 := ⟨Hn.out.os.trans Hn3.out.os, Hn.out.tape.trans Hn3.out.tape, Hn.out.output.trans Hn3.out.output, Nat.le_trans Hn3.out.size Hn.out.size, fun k hk => (Hn.out.block k hk).trans (Hn3.out.block k hk)⟩
  clear HN2 HCo Hn
  go_wp2_with fail
  go_ret
  exact ⟨rfl, hnn⟩
end Go.Proofs.Ytjmghpoknlffiaa

namespace Go.Proofs.Ytjmghpoknlffiaa
open Go.ChangeShapes Go.WideShapes Go.ChangeAt Go.RowKit
set_option linter.unusedSimpArgs false

theorem blk_own {w : World} {G n : Nat} {xs : List Nat} (h : Blk w G 5 (xs.map vb).toArray) (hl : xs.length = n) (hn : n ≤ maxLen) (hx : ∀ x ∈ xs, x < 256) : OwnB w 0 5 (.slice (some ⟨G, 0, none⟩) n n) xs := by
  subst hl
  exact ⟨⟨by simp, .inr ⟨G, xs.length, _, rfl, Nat.zero_le _, h, Nat.le_refl _, hn, by simp, by rw [Nat.mul_one]; exact List.take_of_length_le (by simp)⟩⟩, hx⟩
theorem exec_make256 : ∃ Z : List Nat, Z = List.replicate 256 0 ∧ ∀ (o : Oper) (a : Act) (w : World) (x y : Operand), o.op = .makeSlice 22 x y → a.eval x = .int .i64 256 → a.eval y = .int .i64 256 →
    (execOp a.eval o).run Try.prog w = .ok (.value (.slice (some ⟨w.heap.size, 0, none⟩) 256 256)) (w.alloc (.cells (Z.map vb).toArray 5)) := by
  refine ⟨_, rfl, fun o a w x y ho hx hy => ?_⟩
  have h := mk_256 w
  unfold execOp
  simp only [ho, hx, hy, Sem.run_bind, h, Result.andThen_ok, Sem.run_pure]
section
variable {w : World} {x : Nat} {s : Dv} {F : Nat → Prop}
theorem XM.moreSt {w0 w' : World} {st va vp vr st' v : Value} {bs : List Value} {b : List Nat} (H : XM F w0 w x st va vp vr bs [] [] [] (fun _ => False) s) (hown : w'.ownsRow 0 22 1 st' (s.st.length + 1) (bs ++ [v])) (hv : OwnB w 0 5 v b) (hg : w.grownBy w' st.ownBlock) (hb : st'.ownBlock = st.ownBlock ∨ st'.ownBlock = some w.heap.size)
    (hn : ∀ k, v.ownBlock = some k → ∀ u ∈ bs, u.ownBlock ≠ some k) (hF : ∀ k, v.ownBlock = some k → Grown F w0 w k) :
    XM F w0 (w'.setCell ⟨x, 0, none⟩ st') x st' va vp vr (bs ++ [v]) [] [] [] (fun _ => False) { s with st := s.st ++ [b] } ∧ w'.cell? ⟨x, 0, none⟩ = some st ∧ w'.frozen? ⟨x, 0, none⟩ = false := by
  have hr := own_typed H.st.1
  have hd' : RefAt w' x st va s.off s.ar s.co vp vr := blk_keep hr hg H.dv (by decide)
  have hg2 : w'.grownBy (w'.setCell ⟨x, 0, none⟩ st') (some x) := gb_set (gb_refl w' (some x)) (p := ⟨x, 0, none⟩) (.inl rfl) st'
  have hr2 : ∀ k, some x = some k → ∃ c, Blk w' k 61 c := fun k e => by injection e with e; subst e; exact ⟨_, hd'⟩
  have gm := grown_mono (F := F) (w0 := w0) (Nat.le_trans hg.size hg2.size)
  have hsl : bs.length = s.st.length := H.st.len
  refine ⟨⟨Blk.put hd' 0 st', ⟨by rw [List.length_append]; exact own_keep hr2 hg2 hown (by decide), fun j u e h1 h2 => ownB_keep hr2 hg2 ?_ (by decide)⟩, WrRow.keep hr2 hg2 (WrRow.keep hr hg H.wa (by decide) (by decide)) (by decide) (by decide), WrRow.keep hr2 hg2 (WrRow.keep hr hg H.wr (by decide) (by decide)) (by decide) (by decide), own_keep hr2 hg2 (own_keep hr hg H.cp (by decide)) (by decide),
    (fun j u c h1 => by cases h1), (fun _ _ h => h), (fun _ _ _ _ h => h), fun i j u1 u2 hne h1 h2 k hk => ?_, H.z4, (fun u h => by cases h), (fun u h => by cases h), (fun _ h => h.elim), gm _ H.f0, fun k hk => ?_, fun u hu k hk => ?_, fun k hk => gm k (H.f3 k hk), fun k hk => gm k (H.f4 k hk), fun k hk => gm k (H.f5 k hk),
    (H.md.grown hg (fun k hk => H.row (H.f1 k hk))).grown hg2 (fun k hk => by injection hk with hk; rw [← hk]; exact H.row H.f0)⟩, (RefAt.cells hd').1, Blk.free hd' 0⟩
  · by_cases hj : j < bs.length
    · rw [List.getElem?_append_left hj] at h1
      rw [List.getElem?_append_left (by omega)] at h2
      exact ownB_keep hr hg (H.st.2 j u e h1 h2) (by decide)
    · rw [List.getElem?_append_right (by omega)] at h1
      rw [List.getElem?_append_right (by omega), ← hsl] at h2
      obtain ⟨l, hl⟩ : ∃ l, l = j - bs.length := ⟨_, rfl⟩
      rw [← hl] at h1 h2
      cases l with
      | zero =>
        injection h1 with h1
        injection h2 with h2
        subst h1
        subst h2
        exact ownB_keep hr hg hv (by decide)
      | succ l => cases h1
  · have hlast : ∀ (j : Nat) (u : Value), ¬ j < bs.length → (bs ++ [v])[j]? = some u → j = bs.length ∧ u = v := fun j u hj h => by
      rw [List.getElem?_append_right (by omega)] at h
      obtain ⟨l, hl⟩ : ∃ l, l = j - bs.length := ⟨_, rfl⟩
      rw [← hl] at h
      cases l with
      | zero => injection h with h; exact ⟨by omega, h.symm⟩
      | succ l => cases h
    by_cases hi : i < bs.length
    · rw [List.getElem?_append_left hi] at h1
      by_cases hj : j < bs.length
      · rw [List.getElem?_append_left hj] at h2
        exact H.z3 i j u1 u2 hne h1 h2 k hk
      · obtain ⟨_, rfl⟩ := hlast j u2 hj h2
        exact fun e => hn k e u1 (List.mem_of_getElem? h1) hk
    · obtain ⟨hi2, rfl⟩ := hlast i u1 hi h1
      by_cases hj : j < bs.length
      · rw [List.getElem?_append_left hj] at h2
        exact hn k hk u2 (List.mem_of_getElem? h2)
      · obtain ⟨hj2, _⟩ := hlast j u2 hj h2
        exact absurd (hi2.trans hj2.symm) hne
  · have hl := (hown.lt k hk).2
    rcases hb with hb | hb
    · exact gm k (H.f1 k (hb ▸ hk))
    · rw [hb] at hk
      injection hk with hk
      exact .inr ⟨by rw [← hk]; exact H.md.size, Nat.lt_of_lt_of_le hl hg2.size⟩
  · rcases List.mem_append.1 hu with hu | hu
    · exact gm k (H.f2 u hu k hk)
    · rw [List.mem_singleton.1 hu] at hk
      exact gm k (hF k hk)
set_option maxRecDepth 100000 in
set_option maxHeartbeats 8000000 in
theorem xNew_any (n : Nat) (h1 : 1 ≤ n) (h2 : n ≤ 65536) (w : World) :
    Calls Try.prog 40 #[.int .i64 (n : Int)] w fun e w' => ∃ x, e = .returned (.pointer (some ⟨x, 0, none⟩)) ∧ ∃ F, RefRep w' x (Dv.new n) F ∧ (∀ k, F k → w.heap.size ≤ k) ∧ Below w.heap.size w w' := by
  obtain ⟨Z, hZ, hM⟩ := exec_make256
  have HM := Lib.hid hM
  have HZ := Lib.hid hZ
  have HZb := Lib.hid (show Bl Z by rw [hZ]; exact bl_zero)
  obtain ⟨i1, hi1, hi1a, hi1b, hi1c⟩ := info_parts info_b1
  have Hi1 := Lib.hid (And.intro hi1 (And.intro hi1a (And.intro hi1b hi1c)))
  have hn1 : ¬ (n : Int) < 1 := by omega
  have hn2 : ¬ (65536 : Int) < (n : Int) := by omega
  have Hok := Lib.hid (Dv.Ok.new h1 h2)
  have hal := nu_alloc (nu_refl w) (.cells #[.slice none 0 0, .slice none 0 0, .bool false, .int .i64 0, .int .i64 0, .slice none 0 0, .slice none 0 0] 61)
  have HX := Lib.hid (show XM (fun _ => False) w (w.alloc (.cells #[.slice none 0 0, .slice none 0 0, .bool false, .int .i64 0, .int .i64 0, .slice none 0 0, .slice none 0 0] 61)) w.heap.size (.slice none 0 0) (.slice none 0 0) (.slice none 0 0) (.slice none 0 0) [] [] [] [] (fun _ => False) ⟨[], [], false, 0, 0, [], []⟩ from
    ⟨Blk.made w _ _, ⟨World.ownsRow_nil _ _ _ _, (fun j u b h => by cases h)⟩, ⟨World.ownsRow_nil _ _ _ _, rfl, (fun j u b h => by cases h)⟩, ⟨World.ownsRow_nil _ _ _ _, rfl, (fun j u b h => by cases h)⟩, World.ownsRow_nil _ _ _ _, (fun j u c h => by cases h),
     (fun k h => by cases h), (fun v h => by cases h), (fun i j u v _ h => by cases h), (fun k h => by cases h), (fun v h => by cases h), (fun v h => by cases h), (fun k h => h.elim), .inr ⟨Nat.le_refl _, by simp⟩, (fun k h => by cases h), (fun v h => by cases h), (fun k h => by cases h), (fun k h => by cases h), (fun k h => by cases h),
     (Mods.refl _ _).below hal⟩)
  clear hZ hM h1 hi1 hi1a hi1b hi1c hal
  go_enter Try.func40, Try.ntmps40
  go_upto_region 4 with fail
  change Code.wp _ _ _ _ (w.alloc (.cells #[.slice none 0 0, .slice none 0 0, .bool false, .int .i64 0, .int .i64 0, .slice none 0 0, .slice none 0 0] 61))
  generalize w.alloc (.cells #[.slice none 0 0, .slice none 0 0, .bool false, .int .i64 0, .int .i64 0, .slice none 0 0, .slice none 0 0] 61) = w1 at *
  obtain ⟨X, hX⟩ : ∃ X, X = w.heap.size := ⟨_, rfl⟩
  have HXe := Lib.hid hX
  rw [← hX] at HX
  rw [← hX]
  clear hX
  go_wp2_with fail
  go_loopw [4] (fun i wx => ∃ (k : Nat) (st : Value) (bs : List Value), k ≤ n ∧ i = .int .i64 k ∧ XM (fun _ => False) w wx X st (.slice none 0 0) (.slice none 0 0) (.slice none 0 0) bs [] [] [] (fun _ => False) ⟨List.replicate k Z, [], false, 0, 0, [], []⟩) (fun i _ => n - (intOf i).toNat)
  case atStart => exact ⟨0, _, _, by omega, rfl, HX.out⟩
  case round =>
    clear HX
    obtain ⟨k, st, bs, hk, rfl, hD⟩ := hrel
    have HD := Lib.hid hD
    have Hrl := Lib.hid (show (List.replicate k Z).length = k from List.length_replicate ..)
    have Hsn := Lib.hid (show List.replicate k Z ++ [Z] = List.replicate (k + 1) Z from List.replicate_succ'.symm)
    clear hD
    by_cases hlt : k < n
    · have hki : (k : Int) < (n : Int) := by omega
      go_upto_region 7 with fail
      refine wp_region_held_drew (S := fun _ => True) (by kernel_rfl) (trivial) (fun hHeld => ?_)
      dsimp only [Array.replicate, List.replicate, List.size_toArray, List.length_cons, List.length_nil, Nat.reduceAdd] at hHeld ⊢
      have HD0 := Lib.hid (HD.out.below (nu_drew (nu_refl wr)))
      generalize wr.drew = u0 at *
      refine take_l (i := 0) (v := ?_) rfl (by kernel_rfl) (by kernel_rfl) (by kernel_rfl) (fun _ _ _ h => h) (Or.inl ⟨by rfl, ?_⟩) (by assumption) ?_
      case refine_2 => (intro _ _; go_simp; all_goals with_reducible rfl)
      simp only [Act.put, List.setIfInBounds_toArray, List.set_cons_zero, List.set_cons_succ]
      refine take_l (i := 1) (v := ?_) rfl (by kernel_rfl) (by kernel_rfl) (by kernel_rfl) (fun _ _ _ h => h) (Or.inl ⟨by rfl, ?_⟩) (by assumption) ?_
      case refine_2 => (intro _ _; go_simp; all_goals with_reducible rfl)
      simp only [Act.put, List.setIfInBounds_toArray, List.set_cons_zero, List.set_cons_succ]
      refine take_l (i := 2) (v := ?_) rfl (by kernel_rfl) (by kernel_rfl) (by kernel_rfl) (fun _ _ _ h => h) (Or.inl ⟨by rfl, ?_⟩) (by assumption) ?_
      case refine_2 => (intro _ _; go_simp; all_goals with_reducible rfl)
      simp only [Act.put, List.setIfInBounds_toArray, List.set_cons_zero, List.set_cons_succ]
      refine take_l (i := 3) (v := ?_) rfl (by kernel_rfl) (by kernel_rfl) (by kernel_rfl) (fun _ _ _ h => h) (Or.inl ⟨by rfl, ?_⟩) (by assumption) ?_
      case refine_2 => (intro _ _; go_simp; all_goals with_reducible rfl)
      simp only [Act.put, List.setIfInBounds_toArray, List.set_cons_zero, List.set_cons_succ]
      clear hHeld HD
      refine wpAnyH_ready (rs := [4, 5]) (by kernel_rfl) (by simp) ?_
      refine cons_l rfl (fun K hK => ?_) ?_
      · have c0 := (RefAt.cells HD0.out.dv).1
        go_simp
        go_wp2_with fail
        refine hK.out _ _ trivial (fun hHeld => ?_)
        clear hK K
        simp only [Act.put, List.setIfInBounds_toArray, List.set_cons_zero, List.set_cons_succ]
        clear c0 hHeld
        refine wpAnyH_ready (rs := [5]) (by kernel_rfl) (by simp) ?_
        refine cons_l rfl (fun K hK => ?_) AllReadyH.nil
        refine step_runW _ (HM.out _ _ _ _ _ rfl rfl rfl) rfl ?_
        change K _ (u0.alloc (.cells (Z.map vb).toArray 5))
        have hO := blk_own (Blk.made u0 5 (Z.map vb).toArray) HZb.out.1 (by unfold maxLen; omega) HZb.out.2
        have HC := Lib.hid (show w.heap.size ≤ u0.heap.size from HD0.out.md.size)
        have HD1 := Lib.hid (HD0.out.below (nu_alloc (nu_refl u0) (.cells (Z.map vb).toArray 5)))
        have Hnb := Lib.hid (show ∀ v ∈ bs, v.ownBlock ≠ some u0.heap.size from fun v hv e => by have := HD0.out.st_lt v hv _ e; omega)
        have HO1 := Lib.hid hO
        clear HD0 hO
        generalize u0.alloc (.cells (Z.map vb).toArray 5) = u1 at *
        obtain ⟨C, hC⟩ : ∃ C, C = u0.heap.size := ⟨_, rfl⟩
        rw [← hC] at HO1 HC Hnb
        rw [← hC]
        clear hC
        refine hK.out _ _ trivial (fun hHeld => ?_)
        clear hK K
        simp only [Act.put, List.setIfInBounds_toArray, List.set_cons_zero, List.set_cons_succ]
        clear hHeld
        refine wpAnyH_ready (rs := [6]) (by kernel_rfl) (by simp) ?_
        refine cons_l rfl (fun K hK => ?_) AllReadyH.nil
        refine step_runW _ (exec_slice1 (.tmp 23) 50 22 i1 (.slice none 0 0) 1 Try.underlying50 Hi1.out.1 Hi1.out.2.1 Hi1.out.2.2.1 (by omega) (by omega) (.slice (some ⟨C, 0, none⟩) 256 256) rfl rfl rfl) rfl ?_
        change K _ (u1.alloc (.cells #[.slice (some ⟨C, 0, none⟩) 256 256] 22))
        have HG := Lib.hid (Blk.made u1 22 #[.slice (some ⟨C, 0, none⟩) 256 256])
        have hal := nu_alloc (nu_refl u1) (.cells #[.slice (some ⟨C, 0, none⟩) 256 256] 22)
        have HD2 := Lib.hid (HD1.out.below hal)
        have HO2 := Lib.hid (ownB_under HO1.out hal)
        clear HD1 HO1 hal
        generalize u1.alloc (.cells #[.slice (some ⟨C, 0, none⟩) 256 256] 22) = u2 at *
        obtain ⟨G, hG⟩ : ∃ G, G = u1.heap.size := ⟨_, rfl⟩
        rw [← hG] at HG
        rw [← hG]
        clear hG
        refine hK.out _ _ trivial (fun hHeld => ?_)
        clear hK K
        simp only [Act.put, List.setIfInBounds_toArray, List.set_cons_zero, List.set_cons_succ]
        clear hHeld
        refine wpAnyH_ready (rs := [7]) (by kernel_rfl) (by simp) ?_
        refine cons_l rfl (fun K hK => ?_) AllReadyH.nil
        refine step_append_own rfl (.tmp 22) (.tmp 24) 50 rfl 0 22 i1 (.slice none 0 0) 1 24 Try.underlying50 Hi1.out.1 Hi1.out.2.1 Hi1.out.2.2.1 Hi1.out.2.2.2 rfl (by omega) _ _ _ rfl HD2.out.st.1 (some ⟨G, 0, none⟩) 1 1 [.slice (some ⟨C, 0, none⟩) 256 256] rfl (fun h => by cases h) rfl (fun ad had j u hu => by injection had with had; subst had; rw [Addr.add_lit, Nat.zero_add]; exact HG.out.at j u (by simpa using hu)) (fun u hu => by rw [List.mem_singleton.1 hu]; rfl) (by rw [Hrl.out]; unfold maxLen; omega) (by rw [Hrl.out]; omega) (Nat.zero_le _) ?_
        intro v' u3 hown hg hb
        obtain ⟨va, vc, rfl⟩ := own_len hown
        have hw := HD2.out.moreSt hown HO2.out hg hb (fun j hj u hu e => by
            injection hj with hj
            rw [← hj] at e
            exact Hnb.out u hu e) (fun j hj => by
            injection hj with hj
            rw [← hj]
            exact .inr ⟨HC.out, (HO2.out.1.lt C rfl).2⟩)
        have Hw2 := Lib.hid hw.2
        have hw1 := hw.1
        clear hw
        rw [show ({ (⟨List.replicate k Z, [], false, 0, 0, [], []⟩ : Dv) with st := List.replicate k Z ++ [Z] } : Dv) = ⟨List.replicate (k + 1) Z, [], false, 0, 0, [], []⟩ by rw [Hsn.out]] at hw1
        have Hw := Lib.hid hw1
        clear hown hg hb hw1 HD2 HO2 HG HC Hnb
        refine hK.out _ _ trivial (fun hHeld => ?_)
        clear hK K
        simp only [Act.put, List.setIfInBounds_toArray, List.set_cons_zero, List.set_cons_succ]
        refine take_l (i := 8) (v := ?_) rfl (by kernel_rfl) (by kernel_rfl) (by kernel_rfl) (fun _ _ _ h => h) (Or.inl ⟨by rfl, ?_⟩) (by assumption) ?_
        case refine_2 => (intro _ _; go_simp; all_goals with_reducible rfl)
        simp only [Act.put, List.setIfInBounds_toArray, List.set_cons_zero, List.set_cons_succ]
        refine take_l (i := 9) (v := ?_) rfl (by kernel_rfl) (by kernel_rfl) (by kernel_rfl) (fun _ _ _ h => h) (Or.inl ⟨by rfl, ?_⟩) (by assumption) ?_
        case refine_2 => (intro _ _; go_simp; all_goals with_reducible rfl)
        simp only [Act.put, List.setIfInBounds_toArray, List.set_cons_zero, List.set_cons_succ]
        clear hHeld
        refine wpAnyH_ready (rs := [10]) (by kernel_rfl) (by simp) ?_
        refine cons_l rfl (fun K hK => ?_) AllReadyH.nil
        obtain ⟨c1, f1⟩ := Hw2.out
        go_simp
        go_wp2_with fail
        refine hK.out _ _ trivial (fun hHeld => ?_)
        clear hK K
        simp only [Act.put, List.setIfInBounds_toArray, List.set_cons_zero, List.set_cons_succ]
        clear c1 f1 hHeld Hw2
        refine wpAnyH_done (by kernel_rfl) ?_ _
        go_wp2_with fail
        go_roundw
        rw [Hrl.out] at Hw
        case rel => exact ⟨k + 1, _, _, by omega, by go_num, Hw.out⟩
    -- ((repeat apply Exists.intro); exact ⟨⟨k + 1, _, _, by omega, by go_num, Hw.out⟩, rfl⟩)
        case measure => simp [intOf]; omega
      refine cons_l rfl (fun K hK => ?_) AllReadyH.nil
      refine step_runW _ (HM.out _ _ _ _ _ rfl rfl rfl) rfl ?_
      change K _ (u0.alloc (.cells (Z.map vb).toArray 5))
      have hO := blk_own (Blk.made u0 5 (Z.map vb).toArray) HZb.out.1 (by unfold maxLen; omega) HZb.out.2
      have HC := Lib.hid (show w.heap.size ≤ u0.heap.size from HD0.out.md.size)
      have HD1 := Lib.hid (HD0.out.below (nu_alloc (nu_refl u0) (.cells (Z.map vb).toArray 5)))
      have Hnb := Lib.hid (show ∀ v ∈ bs, v.ownBlock ≠ some u0.heap.size from fun v hv e => by have := HD0.out.st_lt v hv _ e; omega)
      have HO1 := Lib.hid hO
      clear HD0 hO
      generalize u0.alloc (.cells (Z.map vb).toArray 5) = u1 at *
      obtain ⟨C, hC⟩ : ∃ C, C = u0.heap.size := ⟨_, rfl⟩
      rw [← hC] at HO1 HC Hnb
      rw [← hC]
      clear hC
      refine hK.out _ _ trivial (fun hHeld => ?_)
      clear hK K
      simp only [Act.put, List.setIfInBounds_toArray, List.set_cons_zero, List.set_cons_succ]
      clear hHeld
      refine wpAnyH_ready (rs := [4, 6]) (by kernel_rfl) (by simp) ?_
      refine cons_l rfl (fun K hK => ?_) ?_
      · have c0 := (RefAt.cells HD1.out.dv).1
        go_simp
        go_wp2_with fail
        refine hK.out _ _ trivial (fun hHeld => ?_)
        clear hK K
        simp only [Act.put, List.setIfInBounds_toArray, List.set_cons_zero, List.set_cons_succ]
        clear c0 hHeld
        refine wpAnyH_ready (rs := [6]) (by kernel_rfl) (by simp) ?_
        refine cons_l rfl (fun K hK => ?_) AllReadyH.nil
        refine step_runW _ (exec_slice1 (.tmp 23) 50 22 i1 (.slice none 0 0) 1 Try.underlying50 Hi1.out.1 Hi1.out.2.1 Hi1.out.2.2.1 (by omega) (by omega) (.slice (some ⟨C, 0, none⟩) 256 256) rfl rfl rfl) rfl ?_
        change K _ (u1.alloc (.cells #[.slice (some ⟨C, 0, none⟩) 256 256] 22))
        have HG := Lib.hid (Blk.made u1 22 #[.slice (some ⟨C, 0, none⟩) 256 256])
        have hal := nu_alloc (nu_refl u1) (.cells #[.slice (some ⟨C, 0, none⟩) 256 256] 22)
        have HD2 := Lib.hid (HD1.out.below hal)
        have HO2 := Lib.hid (ownB_under HO1.out hal)
        clear HD1 HO1 hal
        generalize u1.alloc (.cells #[.slice (some ⟨C, 0, none⟩) 256 256] 22) = u2 at *
        obtain ⟨G, hG⟩ : ∃ G, G = u1.heap.size := ⟨_, rfl⟩
        rw [← hG] at HG
        rw [← hG]
        clear hG
        refine hK.out _ _ trivial (fun hHeld => ?_)
        clear hK K
        simp only [Act.put, List.setIfInBounds_toArray, List.set_cons_zero, List.set_cons_succ]
        clear hHeld
        refine wpAnyH_ready (rs := [7]) (by kernel_rfl) (by simp) ?_
        refine cons_l rfl (fun K hK => ?_) AllReadyH.nil
        refine step_append_own rfl (.tmp 22) (.tmp 24) 50 rfl 0 22 i1 (.slice none 0 0) 1 24 Try.underlying50 Hi1.out.1 Hi1.out.2.1 Hi1.out.2.2.1 Hi1.out.2.2.2 rfl (by omega) _ _ _ rfl HD2.out.st.1 (some ⟨G, 0, none⟩) 1 1 [.slice (some ⟨C, 0, none⟩) 256 256] rfl (fun h => by cases h) rfl (fun ad had j u hu => by injection had with had; subst had; rw [Addr.add_lit, Nat.zero_add]; exact HG.out.at j u (by simpa using hu)) (fun u hu => by rw [List.mem_singleton.1 hu]; rfl) (by rw [Hrl.out]; unfold maxLen; omega) (by rw [Hrl.out]; omega) (Nat.zero_le _) ?_
        intro v' u3 hown hg hb
        obtain ⟨va, vc, rfl⟩ := own_len hown
        have hw := HD2.out.moreSt hown HO2.out hg hb (fun j hj u hu e => by
            injection hj with hj
            rw [← hj] at e
            exact Hnb.out u hu e) (fun j hj => by
            injection hj with hj
            rw [← hj]
            exact .inr ⟨HC.out, (HO2.out.1.lt C rfl).2⟩)
        have Hw2 := Lib.hid hw.2
        have hw1 := hw.1
        clear hw
        rw [show ({ (⟨List.replicate k Z, [], false, 0, 0, [], []⟩ : Dv) with st := List.replicate k Z ++ [Z] } : Dv) = ⟨List.replicate (k + 1) Z, [], false, 0, 0, [], []⟩ by rw [Hsn.out]] at hw1
        have Hw := Lib.hid hw1
        clear hown hg hb hw1 HD2 HO2 HG HC Hnb
        refine hK.out _ _ trivial (fun hHeld => ?_)
        clear hK K
        simp only [Act.put, List.setIfInBounds_toArray, List.set_cons_zero, List.set_cons_succ]
        refine take_l (i := 8) (v := ?_) rfl (by kernel_rfl) (by kernel_rfl) (by kernel_rfl) (fun _ _ _ h => h) (Or.inl ⟨by rfl, ?_⟩) (by assumption) ?_
        case refine_2 => (intro _ _; go_simp; all_goals with_reducible rfl)
        simp only [Act.put, List.setIfInBounds_toArray, List.set_cons_zero, List.set_cons_succ]
        refine take_l (i := 9) (v := ?_) rfl (by kernel_rfl) (by kernel_rfl) (by kernel_rfl) (fun _ _ _ h => h) (Or.inl ⟨by rfl, ?_⟩) (by assumption) ?_
        case refine_2 => (intro _ _; go_simp; all_goals with_reducible rfl)
        simp only [Act.put, List.setIfInBounds_toArray, List.set_cons_zero, List.set_cons_succ]
        clear hHeld
        refine wpAnyH_ready (rs := [10]) (by kernel_rfl) (by simp) ?_
        refine cons_l rfl (fun K hK => ?_) AllReadyH.nil
        obtain ⟨c1, f1⟩ := Hw2.out
        go_simp
        go_wp2_with fail
        refine hK.out _ _ trivial (fun hHeld => ?_)
        clear hK K
        simp only [Act.put, List.setIfInBounds_toArray, List.set_cons_zero, List.set_cons_succ]
        clear c1 f1 hHeld Hw2
        refine wpAnyH_done (by kernel_rfl) ?_ _
        go_wp2_with fail
        go_roundw
        rw [Hrl.out] at Hw
        case rel => exact ⟨k + 1, _, _, by omega, by go_num, Hw.out⟩
    -- ((repeat apply Exists.intro); exact ⟨⟨k + 1, _, _, by omega, by go_num, Hw.out⟩, rfl⟩)
        case measure => simp [intOf]; omega
      refine cons_l rfl (fun K hK => ?_) AllReadyH.nil
      refine step_runW _ (exec_slice1 (.tmp 23) 50 22 i1 (.slice none 0 0) 1 Try.underlying50 Hi1.out.1 Hi1.out.2.1 Hi1.out.2.2.1 (by omega) (by omega) (.slice (some ⟨C, 0, none⟩) 256 256) rfl rfl rfl) rfl ?_
      change K _ (u1.alloc (.cells #[.slice (some ⟨C, 0, none⟩) 256 256] 22))
      have HG := Lib.hid (Blk.made u1 22 #[.slice (some ⟨C, 0, none⟩) 256 256])
      have hal := nu_alloc (nu_refl u1) (.cells #[.slice (some ⟨C, 0, none⟩) 256 256] 22)
      have HD2 := Lib.hid (HD1.out.below hal)
      have HO2 := Lib.hid (ownB_under HO1.out hal)
      clear HD1 HO1 hal
      generalize u1.alloc (.cells #[.slice (some ⟨C, 0, none⟩) 256 256] 22) = u2 at *
      obtain ⟨G, hG⟩ : ∃ G, G = u1.heap.size := ⟨_, rfl⟩
      rw [← hG] at HG
      rw [← hG]
      clear hG
      refine hK.out _ _ trivial (fun hHeld => ?_)
      clear hK K
      simp only [Act.put, List.setIfInBounds_toArray, List.set_cons_zero, List.set_cons_succ]
      clear hHeld
      refine wpAnyH_ready (rs := [4]) (by kernel_rfl) (by simp) ?_
      refine cons_l rfl (fun K hK => ?_) AllReadyH.nil
      have c0 := (RefAt.cells HD2.out.dv).1
      go_simp
      go_wp2_with fail
      refine hK.out _ _ trivial (fun hHeld => ?_)
      clear hK K
      simp only [Act.put, List.setIfInBounds_toArray, List.set_cons_zero, List.set_cons_succ]
      clear c0 hHeld
      refine wpAnyH_ready (rs := [7]) (by kernel_rfl) (by simp) ?_
      refine cons_l rfl (fun K hK => ?_) AllReadyH.nil
      refine step_append_own rfl (.tmp 22) (.tmp 24) 50 rfl 0 22 i1 (.slice none 0 0) 1 24 Try.underlying50 Hi1.out.1 Hi1.out.2.1 Hi1.out.2.2.1 Hi1.out.2.2.2 rfl (by omega) _ _ _ rfl HD2.out.st.1 (some ⟨G, 0, none⟩) 1 1 [.slice (some ⟨C, 0, none⟩) 256 256] rfl (fun h => by cases h) rfl (fun ad had j u hu => by injection had with had; subst had; rw [Addr.add_lit, Nat.zero_add]; exact HG.out.at j u (by simpa using hu)) (fun u hu => by rw [List.mem_singleton.1 hu]; rfl) (by rw [Hrl.out]; unfold maxLen; omega) (by rw [Hrl.out]; omega) (Nat.zero_le _) ?_
      intro v' u3 hown hg hb
      obtain ⟨va, vc, rfl⟩ := own_len hown
      have hw := HD2.out.moreSt hown HO2.out hg hb (fun j hj u hu e => by
          injection hj with hj
          rw [← hj] at e
          exact Hnb.out u hu e) (fun j hj => by
          injection hj with hj
          rw [← hj]
          exact .inr ⟨HC.out, (HO2.out.1.lt C rfl).2⟩)
      have Hw2 := Lib.hid hw.2
      have hw1 := hw.1
      clear hw
      rw [show ({ (⟨List.replicate k Z, [], false, 0, 0, [], []⟩ : Dv) with st := List.replicate k Z ++ [Z] } : Dv) = ⟨List.replicate (k + 1) Z, [], false, 0, 0, [], []⟩ by rw [Hsn.out]] at hw1
      have Hw := Lib.hid hw1
      clear hown hg hb hw1 HD2 HO2 HG HC Hnb
      refine hK.out _ _ trivial (fun hHeld => ?_)
      clear hK K
      simp only [Act.put, List.setIfInBounds_toArray, List.set_cons_zero, List.set_cons_succ]
      refine take_l (i := 8) (v := ?_) rfl (by kernel_rfl) (by kernel_rfl) (by kernel_rfl) (fun _ _ _ h => h) (Or.inl ⟨by rfl, ?_⟩) (by assumption) ?_
      case refine_2 => (intro _ _; go_simp; all_goals with_reducible rfl)
      simp only [Act.put, List.setIfInBounds_toArray, List.set_cons_zero, List.set_cons_succ]
      refine take_l (i := 9) (v := ?_) rfl (by kernel_rfl) (by kernel_rfl) (by kernel_rfl) (fun _ _ _ h => h) (Or.inl ⟨by rfl, ?_⟩) (by assumption) ?_
      case refine_2 => (intro _ _; go_simp; all_goals with_reducible rfl)
      simp only [Act.put, List.setIfInBounds_toArray, List.set_cons_zero, List.set_cons_succ]
      clear hHeld
      refine wpAnyH_ready (rs := [10]) (by kernel_rfl) (by simp) ?_
      refine cons_l rfl (fun K hK => ?_) AllReadyH.nil
      obtain ⟨c1, f1⟩ := Hw2.out
      go_simp
      go_wp2_with fail
      refine hK.out _ _ trivial (fun hHeld => ?_)
      clear hK K
      simp only [Act.put, List.setIfInBounds_toArray, List.set_cons_zero, List.set_cons_succ]
      clear c1 f1 hHeld Hw2
      refine wpAnyH_done (by kernel_rfl) ?_ _
      go_wp2_with fail
      go_roundw
      rw [Hrl.out] at Hw
      case rel => exact ⟨k + 1, _, _, by omega, by go_num, Hw.out⟩
  -- ((repeat apply Exists.intro); exact ⟨⟨k + 1, _, _, by omega, by go_num, Hw.out⟩, rfl⟩)
      case measure => simp [intOf]; omega
    · obtain rfl : k = n := by omega
      have hki : ¬ (k : Int) < (k : Int) := by omega
      have HN := Lib.hid (HD.out.next (show Dv.Ok ⟨List.replicate k Z, [], false, 0, 0, [], []⟩ by rw [HZ.out]; exact Hok.out) (fun _ h => h.elim))
      clear HD
      go_wp2_with fail
      go_ret
      refine ⟨_, rfl, Grown (fun _ => False) w wr, ?_, fun j hj => ?_, HN.out.2.to_below (Nat.le_refl _) (fun _ h => h.elim)⟩
      · have h := HN.out.1
        rw [HZ.out] at h
        unfold Dv.new
        exact h
      · exact hj.elim (fun h => h.elim) (fun h => h.1)
end
end Go.Proofs.Ytjmghpoknlffiaa

namespace Go.Proofs.Ytjmghpoknlffiaa
open Go.ChangeShapes Go.WideShapes Go.ChangeAt Go.RowKit
set_option linter.unusedSimpArgs false

def Dv.writeS (s : Dv) (a : Int) (len : Nat) (b : List Nat) : Dv := if s.rdy a = 0 ∧ len = 256 then (s.put a.toNat b).spent else s
def Dv.writeC (s : Dv) (a : Int) (len : Nat) : Int := if s.rdy a = 0 ∧ len = 256 then (if spentOff s.ar = true then 7 else 0) else if s.rdy a ≠ 0 then s.rdy a else 1
def Dv.flushS (s : Dv) : Dv := if s.off = true then s else if spentOff s.ar = true then s.spent else s.spent.flush
def Dv.flushC (s : Dv) : Int := if s.off = true then 7 else if spentOff s.ar = true then 7 else 0
def Dv.spendS (s : Dv) : Dv := if s.off = true then s else s.spent
def Dv.spendC (s : Dv) : Bool := if s.off = true then false else !spentOff s.ar
def Dv.pokeS (s : Dv) (a f : Int) (len : Nat) (ys : List Nat) : Dv := if (0 ≤ a ∧ a < (s.st.length : Int)) ∧ 0 ≤ f ∧ f ≤ 256 ∧ (len : Int) ≤ 256 - f then s.settle a.toNat (pokeL (s.now a.toNat) f.toNat ys len) else s
def Dv.pokeC (s : Dv) (a f : Int) (len : Nat) : Int := if (0 ≤ a ∧ a < (s.st.length : Int)) ∧ 0 ≤ f ∧ f ≤ 256 ∧ (len : Int) ≤ 256 - f then 0 else 1
def Dv.copyS (s : Dv) (a b : Int) : Dv := if (0 ≤ a ∧ a < (s.st.length : Int)) ∧ (0 ≤ b ∧ b < (s.st.length : Int)) then s.settle b.toNat (s.now a.toNat) else s
def Dv.copyC (s : Dv) (a b : Int) : Int := if (0 ≤ a ∧ a < (s.st.length : Int)) ∧ (0 ≤ b ∧ b < (s.st.length : Int)) then 0 else 1
def Dv.snapS (s : Dv) : Dv := if s.cp.length = 8 then s else s.snap
def Dv.snapN (s : Dv) : Int := if s.cp.length = 8 then 0 else (s.cp.length : Int)
def Dv.snapC (s : Dv) : Int := if s.cp.length = 8 then 11 else 0
def Dv.backS (s : Dv) (a : Int) : Dv := if 0 ≤ a ∧ a < (s.cp.length : Int) then s.back a.toNat else s
def Dv.backC (s : Dv) (a : Int) : Int := if 0 ≤ a ∧ a < (s.cp.length : Int) then 0 else 1
theorem rdy_zero {s : Dv} {a : Int} (h : s.rdy a = 0) : s.off = false ∧ ∃ i : Nat, a = (i : Int) ∧ i < s.st.length := by
  unfold Dv.rdy at h
  split at h
  · cases h
  · rename_i ho
    split at h
    · cases h
    · rename_i h2
      obtain ⟨i, rfl⟩ := Int.eq_ofNat_of_zero_le (show 0 ≤ a by omega)
      exact ⟨by simpa using ho, i, rfl, by omega⟩
/-- What an act leaves of the numbers. -/
def Step (s s' : Dv) : Prop := s'.st.length = s.st.length ∧ s'.wa.length ≤ s.wa.length + 1 ∧ s'.wr.length ≤ s.wr.length + 1 ∧ ∃ l, s'.cp = s.cp ++ l
theorem Step.refl (s : Dv) : Step s s := ⟨rfl, Nat.le_succ _, Nat.le_succ _, [], (List.append_nil _).symm⟩
theorem step_of {s s' : Dv} (h1 : s'.st.length = s.st.length) (h2 : s'.wa.length ≤ s.wa.length) (h3 : s'.wr = s.wr) (h4 : s'.cp = s.cp) : Step s s' :=
  ⟨h1, Nat.le_succ_of_le h2, by rw [h3]; exact Nat.le_succ _, [], by rw [h4, List.append_nil]⟩
theorem step_write (s : Dv) (a : Int) (len : Nat) (b : List Nat) : Step s (s.writeS a len b) := by
  unfold Dv.writeS
  split
  · exact ⟨rfl, by show (s.wa ++ [_]).length ≤ _; rw [List.length_append]; exact Nat.le_refl _, by show (s.wr ++ [_]).length ≤ _; rw [List.length_append]; exact Nat.le_refl _, [], (List.append_nil _).symm⟩
  · exact Step.refl s
theorem step_flush (s : Dv) : Step s s.flushS := by
  unfold Dv.flushS
  split
  · exact Step.refl s
  · split
    · exact step_of rfl (Nat.le_refl _) rfl rfl
    · exact step_of (flushL_len _ _) (Nat.zero_le _) rfl rfl
theorem step_spend (s : Dv) : Step s s.spendS := by
  unfold Dv.spendS
  split
  · exact Step.refl s
  · exact step_of rfl (Nat.le_refl _) rfl rfl
theorem step_arm (s : Dv) (n : Int) : Step s (s.arm n) := by
  unfold Dv.arm
  split
  · exact Step.refl s
  · exact step_of rfl (Nat.le_refl _) rfl rfl
theorem step_crash (s : Dv) : Step s s.crash := step_of rfl (Nat.le_refl _) rfl rfl
theorem step_on (s : Dv) (fs : List Int) : Step s (s.on fs) := by
  unfold Dv.on
  split
  · exact step_of (onL_len _ _ _ _) (Nat.zero_le _) rfl rfl
  · exact Step.refl s
theorem step_settle (s : Dv) (i : Nat) (b : List Nat) : Step s (s.settle i b) := step_of (List.length_set ..) (List.length_filter_le ..) rfl rfl
theorem step_poke (s : Dv) (a f : Int) (len : Nat) (ys : List Nat) : Step s (s.pokeS a f len ys) := by
  unfold Dv.pokeS
  split
  · exact step_settle ..
  · exact Step.refl s
theorem step_copy (s : Dv) (a b : Int) : Step s (s.copyS a b) := by
  unfold Dv.copyS
  split
  · exact step_settle ..
  · exact Step.refl s
theorem step_snap (s : Dv) : Step s s.snapS := by
  unfold Dv.snapS
  split
  · exact Step.refl s
  · exact ⟨rfl, Nat.le_succ _, Nat.le_succ _, [s.image], rfl⟩
theorem step_back {s : Dv} (h : s.Ok) (a : Int) : Step s (s.backS a) := by
  unfold Dv.backS
  split
  · rename_i ha
    have hl : a.toNat < s.cp.length := by omega
    exact step_of (by
      show (s.cp.getD a.toNat []).length = _
      rw [List.getD_eq_getElem?_getD, List.getElem?_eq_getElem hl]
      exact (h.cb _ (List.getElem_mem hl)).1) (Nat.zero_le _) rfl rfl
  · exact Step.refl s
section
variable {w : World} {d x : Nat} {s : Dv} {F : Nat → Prop}

theorem writeD_all (H : DevRep w d s F) (a : Int) (ad : Option Addr) (len cap : Nat) (b : List Nat) (hx : BytesIn w ad len cap b) (hout : 0 < len → ∀ r, ad = some r → ¬ F r.block) (hwl : s.wa.length ≤ 1000000000) (hrl : s.wr.length ≤ 1000000000) :
    Calls Try.prog 12 #[.pointer (some ⟨d, 0, none⟩), .int .i64 a, .slice ad len cap] w fun e w' => e = .returned (.int .i64 (s.writeC a len)) ∧ DevNext F w w' d (s.writeS a len b) := by
  by_cases h : s.rdy a = 0 ∧ len = 256
  · obtain ⟨h1, rfl⟩ := h
    obtain ⟨ho, i, rfl, hi⟩ := rdy_zero h1
    rw [show s.writeC (i : Int) 256 = (if spentOff s.ar = true then 7 else 0) from if_pos ⟨h1, rfl⟩, show s.writeS (i : Int) 256 b = (s.put i b).spent from if_pos ⟨h1, rfl⟩]
    exact writeD_good H i hi ho ad cap b hx (hout (by omega)) hwl hrl
  · unfold Dv.writeC Dv.writeS
    rw [if_neg h, if_neg h]
    exact (writeD_bad H a ad len cap (by omega)).mono fun e w' h => ⟨h.1, h.2 ▸ DevNext.refl H⟩
theorem flushD_all (H : DevRep w d s F) (hwl : s.wa.length ≤ 1000000000) : Calls Try.prog 13 #[.pointer (some ⟨d, 0, none⟩)] w fun e w' => e = .returned (.int .i64 s.flushC) ∧ DevNext F w w' d (s.flushS) := by
  unfold Dv.flushC Dv.flushS
  by_cases ho : s.off = true
  · rw [if_pos ho, if_pos ho]
    exact (flushD_off H ho).mono fun e w' h => ⟨h.1, h.2 ▸ DevNext.refl H⟩
  · have ho2 : s.off = false := by simpa using ho
    rw [if_neg ho, if_neg ho]
    by_cases ha : spentOff s.ar = true
    · rw [if_pos ha, if_pos ha]
      exact flushD_gone H ho2 ha
    · rw [if_neg ha, if_neg ha]
      exact flushD_go H ho2 (by simpa using ha) hwl
theorem spendD_all (H : DevRep w d s F) : Calls Try.prog 16 #[.pointer (some ⟨d, 0, none⟩)] w fun e w' => e = .returned (.bool s.spendC) ∧ DevNext F w w' d (s.spendS) := by
  unfold Dv.spendC Dv.spendS
  by_cases ho : s.off = true
  · rw [if_pos ho, if_pos ho]
    exact (spendOff H ho).mono fun e w' h => ⟨h.1, h.2 ▸ DevNext.refl H⟩
  · rw [if_neg ho, if_neg ho]
    exact spendOn H (by simpa using ho)
theorem onD_all (H : DevRep w d s F) (a : Option Addr) (len cap : Nat) (fs : List Int) (hf : NumsIn w a len fs) (hout : 0 < len → ∀ ad, a = some ad → ¬ F ad.block) (hlen : len ≤ 9223372036854775807) (hwl : s.wa.length ≤ 1000000000) : Calls Try.prog 17 #[.pointer (some ⟨d, 0, none⟩), .slice a len cap] w fun e w' => e = .returned (.tuple #[]) ∧ DevNext F w w' d (s.on fs) := by
  by_cases ho : s.off = true
  · exact onD_down H ho a len cap fs hf hout hlen hwl
  · have he : s.on fs = s := if_neg ho
    rw [he]
    exact (onD_up H (by simpa using ho) a len cap).mono fun e w' h => ⟨h.1, h.2 ▸ DevNext.refl H⟩
theorem pokeD_all (H : DevRep w d s F) (a f : Int) (ad : Option Addr) (len cap : Nat) (ys : List Nat) (hx : BytesIn w ad len cap ys) (hf : -9223372036854775808 ≤ f ∧ f ≤ 9223372036854775807) (hwl : s.wa.length ≤ 1000000000) : Calls Try.prog 34 #[.pointer (some ⟨d, 0, none⟩), .int .i64 a, .int .i64 f, .slice ad len cap] w fun e w' => e = .returned (.int .i64 (s.pokeC a f len)) ∧ DevNext F w w' d (s.pokeS a f len ys) := by
  unfold Dv.pokeC Dv.pokeS
  by_cases h : (0 ≤ a ∧ a < (s.st.length : Int)) ∧ 0 ≤ f ∧ f ≤ 256 ∧ (len : Int) ≤ 256 - f
  · rw [if_pos h, if_pos h]
    obtain ⟨⟨h1, h2⟩, h3, h4, h5⟩ := h
    obtain ⟨i, rfl⟩ := Int.eq_ofNat_of_zero_le h1
    obtain ⟨f, rfl⟩ := Int.eq_ofNat_of_zero_le h3
    rw [Int.toNat_natCast, Int.toNat_natCast]
    exact pokeD_good H i (by omega) f (by omega) ad len cap ys hx (by omega) hwl
  · rw [if_neg h, if_neg h]
    exact (pokeD_bad H a f ad len cap hf h).mono fun e w' h => ⟨h.1, h.2 ▸ DevNext.refl H⟩
theorem copyD_all (H : DevRep w d s F) (a b : Int) (hwl : s.wa.length ≤ 1000000000) : Calls Try.prog 35 #[.pointer (some ⟨d, 0, none⟩), .int .i64 a, .int .i64 b] w fun e w' => e = .returned (.int .i64 (s.copyC a b)) ∧ DevNext F w w' d (s.copyS a b) := by
  unfold Dv.copyC Dv.copyS
  by_cases h : (0 ≤ a ∧ a < (s.st.length : Int)) ∧ (0 ≤ b ∧ b < (s.st.length : Int))
  · rw [if_pos h, if_pos h]
    obtain ⟨⟨h1, h2⟩, h3, h4⟩ := h
    obtain ⟨i, rfl⟩ := Int.eq_ofNat_of_zero_le h1
    obtain ⟨j, rfl⟩ := Int.eq_ofNat_of_zero_le h3
    rw [Int.toNat_natCast, Int.toNat_natCast]
    exact copyD_good H i j (by omega) (by omega) hwl
  · rw [if_neg h, if_neg h]
    exact (copyD_bad H a b h).mono fun e w' h => ⟨h.1, h.2 ▸ DevNext.refl H⟩
theorem snapD_all (H : DevRep w d s F) (hwl : s.wa.length ≤ 1000000000) : Calls Try.prog 29 #[.pointer (some ⟨d, 0, none⟩)] w fun e w' => e = .returned (.tuple #[.int .i64 s.snapN, .int .i64 s.snapC]) ∧ DevNext F w w' d (s.snapS) := by
  unfold Dv.snapN Dv.snapC Dv.snapS
  by_cases h : s.cp.length = 8
  · rw [if_pos h, if_pos h, if_pos h]
    exact (snapD_full H h).mono fun e w' h => ⟨h.1, h.2 ▸ DevNext.refl H⟩
  · rw [if_neg h, if_neg h, if_neg h]
    exact snapD_good H (by have := H.1.cp; omega) hwl
theorem backD_all (H : DevRep w d s F) (a : Int) : Calls Try.prog 30 #[.pointer (some ⟨d, 0, none⟩), .int .i64 a] w fun e w' => e = .returned (.int .i64 (s.backC a)) ∧ DevNext F w w' d (s.backS a) := by
  unfold Dv.backC Dv.backS
  by_cases h : 0 ≤ a ∧ a < (s.cp.length : Int)
  · rw [if_pos h, if_pos h]
    obtain ⟨h1, h2⟩ := h
    obtain ⟨i, rfl⟩ := Int.eq_ofNat_of_zero_le h1
    rw [Int.toNat_natCast]
    exact backD_good H i (by omega)
  · rw [if_neg h, if_neg h]
    exact (backD_bad H a (by omega)).mono fun e w' h => ⟨h.1, h.2 ▸ DevNext.refl H⟩

theorem writeX_all (H : RefRep w x s F) (a : Int) (ad : Option Addr) (len cap : Nat) (b : List Nat) (hx : BytesIn w ad len cap b) (hout : 0 < len → ∀ r, ad = some r → ¬ F r.block) (hwl : s.wa.length ≤ 1000000000) (hrl : s.wr.length ≤ 1000000000) :
    Calls Try.prog 43 #[.pointer (some ⟨x, 0, none⟩), .int .i64 a, .slice ad len cap] w fun e w' => e = .returned (.int .i64 (s.writeC a len)) ∧ RefNext F w w' x (s.writeS a len b) := by
  by_cases h : s.rdy a = 0 ∧ len = 256
  · obtain ⟨h1, rfl⟩ := h
    obtain ⟨ho, i, rfl, hi⟩ := rdy_zero h1
    rw [show s.writeC (i : Int) 256 = (if spentOff s.ar = true then 7 else 0) from if_pos ⟨h1, rfl⟩, show s.writeS (i : Int) 256 b = (s.put i b).spent from if_pos ⟨h1, rfl⟩]
    exact xWrite_good H i hi ho ad cap b hx (hout (by omega)) hwl hrl
  · unfold Dv.writeC Dv.writeS
    rw [if_neg h, if_neg h]
    exact (xWrite_bad H a ad len cap (by omega)).mono fun e w' h => ⟨h.1, h.2 ▸ RefNext.refl H⟩
theorem flushX_all (H : RefRep w x s F) (hwl : s.wa.length ≤ 1000000000) : Calls Try.prog 44 #[.pointer (some ⟨x, 0, none⟩)] w fun e w' => e = .returned (.int .i64 s.flushC) ∧ RefNext F w w' x (s.flushS) := by
  unfold Dv.flushC Dv.flushS
  by_cases ho : s.off = true
  · rw [if_pos ho, if_pos ho]
    exact (xFlush_off H ho).mono fun e w' h => ⟨h.1, h.2 ▸ RefNext.refl H⟩
  · have ho2 : s.off = false := by simpa using ho
    rw [if_neg ho, if_neg ho]
    by_cases ha : spentOff s.ar = true
    · rw [if_pos ha, if_pos ha]
      exact xFlush_gone H ho2 ha
    · rw [if_neg ha, if_neg ha]
      exact xFlush_go H ho2 (by simpa using ha) hwl
theorem spendX_all (H : RefRep w x s F) : Calls Try.prog 45 #[.pointer (some ⟨x, 0, none⟩)] w fun e w' => e = .returned (.bool s.spendC) ∧ RefNext F w w' x (s.spendS) := by
  unfold Dv.spendC Dv.spendS
  by_cases ho : s.off = true
  · rw [if_pos ho, if_pos ho]
    exact (xSpendOff H ho).mono fun e w' h => ⟨h.1, h.2 ▸ RefNext.refl H⟩
  · rw [if_neg ho, if_neg ho]
    exact xSpendOn H (by simpa using ho)
theorem onX_all (H : RefRep w x s F) (a : Option Addr) (len cap : Nat) (fs : List Int) (hf : NumsIn w a len fs) (hout : 0 < len → ∀ ad, a = some ad → ¬ F ad.block) (hlen : len ≤ 9223372036854775807) (hwl : s.wa.length ≤ 1000000000) : Calls Try.prog 48 #[.pointer (some ⟨x, 0, none⟩), .slice a len cap] w fun e w' => e = .returned (.tuple #[]) ∧ RefNext F w w' x (s.on fs) := by
  by_cases ho : s.off = true
  · exact xOn_down H ho a len cap fs hf hout hlen hwl
  · have he : s.on fs = s := if_neg ho
    rw [he]
    exact (xOn_up H (by simpa using ho) a len cap).mono fun e w' h => ⟨h.1, h.2 ▸ RefNext.refl H⟩
theorem pokeX_all (H : RefRep w x s F) (a f : Int) (ad : Option Addr) (len cap : Nat) (ys : List Nat) (hx : BytesIn w ad len cap ys) (hf : -9223372036854775808 ≤ f ∧ f ≤ 9223372036854775807) (hwl : s.wa.length ≤ 1000000000) : Calls Try.prog 49 #[.pointer (some ⟨x, 0, none⟩), .int .i64 a, .int .i64 f, .slice ad len cap] w fun e w' => e = .returned (.int .i64 (s.pokeC a f len)) ∧ RefNext F w w' x (s.pokeS a f len ys) := by
  unfold Dv.pokeC Dv.pokeS
  by_cases h : (0 ≤ a ∧ a < (s.st.length : Int)) ∧ 0 ≤ f ∧ f ≤ 256 ∧ (len : Int) ≤ 256 - f
  · rw [if_pos h, if_pos h]
    obtain ⟨⟨h1, h2⟩, h3, h4, h5⟩ := h
    obtain ⟨i, rfl⟩ := Int.eq_ofNat_of_zero_le h1
    obtain ⟨f, rfl⟩ := Int.eq_ofNat_of_zero_le h3
    rw [Int.toNat_natCast, Int.toNat_natCast]
    exact xPoke_good H i (by omega) f (by omega) ad len cap ys hx (by omega) hwl
  · rw [if_neg h, if_neg h]
    exact (xPoke_bad H a f ad len cap hf h).mono fun e w' h => ⟨h.1, h.2 ▸ RefNext.refl H⟩
theorem copyX_all (H : RefRep w x s F) (a b : Int) (hwl : s.wa.length ≤ 1000000000) : Calls Try.prog 50 #[.pointer (some ⟨x, 0, none⟩), .int .i64 a, .int .i64 b] w fun e w' => e = .returned (.int .i64 (s.copyC a b)) ∧ RefNext F w w' x (s.copyS a b) := by
  unfold Dv.copyC Dv.copyS
  by_cases h : (0 ≤ a ∧ a < (s.st.length : Int)) ∧ (0 ≤ b ∧ b < (s.st.length : Int))
  · rw [if_pos h, if_pos h]
    obtain ⟨⟨h1, h2⟩, h3, h4⟩ := h
    obtain ⟨i, rfl⟩ := Int.eq_ofNat_of_zero_le h1
    obtain ⟨j, rfl⟩ := Int.eq_ofNat_of_zero_le h3
    rw [Int.toNat_natCast, Int.toNat_natCast]
    exact xCopy_good H i j (by omega) (by omega) hwl
  · rw [if_neg h, if_neg h]
    exact (xCopy_bad H a b h).mono fun e w' h => ⟨h.1, h.2 ▸ RefNext.refl H⟩
theorem snapX_all (H : RefRep w x s F) (hwl : s.wa.length ≤ 1000000000) : Calls Try.prog 51 #[.pointer (some ⟨x, 0, none⟩)] w fun e w' => e = .returned (.tuple #[.int .i64 s.snapN, .int .i64 s.snapC]) ∧ RefNext F w w' x (s.snapS) := by
  unfold Dv.snapN Dv.snapC Dv.snapS
  by_cases h : s.cp.length = 8
  · rw [if_pos h, if_pos h, if_pos h]
    exact (xSnap_full H h).mono fun e w' h => ⟨h.1, h.2 ▸ RefNext.refl H⟩
  · rw [if_neg h, if_neg h, if_neg h]
    exact xSnap_good H (by have := H.1.cp; omega) hwl
theorem backX_all (H : RefRep w x s F) (a : Int) : Calls Try.prog 52 #[.pointer (some ⟨x, 0, none⟩), .int .i64 a] w fun e w' => e = .returned (.int .i64 (s.backC a)) ∧ RefNext F w w' x (s.backS a) := by
  unfold Dv.backC Dv.backS
  by_cases h : 0 ≤ a ∧ a < (s.cp.length : Int)
  · rw [if_pos h, if_pos h]
    obtain ⟨h1, h2⟩ := h
    obtain ⟨i, rfl⟩ := Int.eq_ofNat_of_zero_le h1
    rw [Int.toNat_natCast]
    exact xBack_good H i (by omega)
  · rw [if_neg h, if_neg h]
    exact (xBack_bad H a (by omega)).mono fun e w' h => ⟨h.1, h.2 ▸ RefNext.refl H⟩
end
/-- A slice that came in: it lies outside of U. -/
def Far (w : World) (U : Nat → Prop) (a : Option Addr) (len : Nat) : Prop := 0 < len → ∀ ad, a = some ad → ad.block < w.heap.size ∧ ¬ U ad.block
theorem Far.out {w0 w : World} {U F : Nat → Prop} {a : Option Addr} {len : Nat} (h : Far w0 U a len) (hF : ∀ k, F k → Grown U w0 w k) : 0 < len → ∀ ad, a = some ad → ¬ F ad.block := fun hp ad had hf => by
  rcases hF _ hf with h1 | h1
  · exact (h hp ad had).2 h1
  · have := (h hp ad had).1; omega
theorem BytesIn.mods0 {F : Nat → Prop} {w0 w : World} {a : Option Addr} {len cap : Nat} {xs : List Nat} (h : BytesIn w0 a len cap xs) (hm : Mods F w0 w) (hn : 0 < len → ∀ ad, a = some ad → ¬ F ad.block) : BytesIn w a len cap xs := by
  refine ⟨⟨h.1.1, h.1.2.1, fun hp => ?_⟩, h.2⟩
  obtain ⟨b, off, rfl, hlt, hc⟩ := h.1.2.2 hp
  exact ⟨b, off, rfl, Nat.lt_of_lt_of_le hlt hm.size, fun j n hj => (World.cell?_of_block (w := w0) (a := ⟨b, off + j, none⟩) (hm.block b hlt (hn hp _ rfl))).trans (hc j n hj)⟩
theorem blk_mods {F : Nat → Prop} {w0 w : World} {g : Nat} {t : TypeId} {cs : Array Value} (h : Blk w0 g t cs) (hm : Mods F w0 w) (hn : ¬ F g) : Blk w g t cs := (hm.block g h.lt hn).trans h
/-! ### Both at once -/
/-- The program's device holds s1, the document's s2; all of both lies in U. -/
def Pair2 (w : World) (d x : Nat) (s1 s2 : Dv) (U : Nat → Prop) : Prop := ∃ F G : Nat → Prop, DevRep w d s1 F ∧ RefRep w x s2 G ∧ (∀ k, F k → ¬ G k) ∧ (∀ k, F k → U k) ∧ (∀ k, G k → U k) ∧ ∀ k, U k → k < w.heap.size
def PairTo (U : Nat → Prop) (w w' : World) (d x : Nat) (s1 s2 : Dv) : Prop := Pair2 w' d x s1 s2 (Grown U w w') ∧ Mods U w w'
theorem Mods.wider {F U : Nat → Prop} {w w' : World} (h : Mods F w w') (hF : ∀ k, F k → U k) : Mods U w w' := ⟨h.os, h.tape, h.output, h.size, fun k hk hn => h.block k hk (fun e => hn (hF k e))⟩
section
variable {w w' : World} {d x : Nat} {s1 s2 s1' s2' : Dv} {U : Nat → Prop} {f : FuncId} {args : Array Value} {P : Ending → World → Prop}
theorem grown_up {V : Nat → Prop} (hF : ∀ k, V k → U k) : ∀ k, Grown V w w' k → Grown U w w' k := fun k hk => hk.elim (fun h => .inl (hF k h)) .inr
theorem Pair2.okD (H : Pair2 w d x s1 s2 U) : s1.Ok := by
  obtain ⟨F, G, h1, _⟩ := H
  exact h1.1
theorem Pair2.okX (H : Pair2 w d x s1 s2 U) : s2.Ok := by
  obtain ⟨F, G, _, h2, _⟩ := H
  exact h2.1
theorem Pair2.lt (H : Pair2 w d x s1 s2 U) : ∀ k, U k → k < w.heap.size := by
  obtain ⟨F, G, _, _, _, _, _, h⟩ := H
  exact h
theorem PairTo.of_below (H : Pair2 w d x s1 s2 U) (hb : Below w.heap.size w w') : PairTo U w w' d x s1 s2 := by
  obtain ⟨F, G, h1, h2, h3, h4, h5, h6⟩ := H
  exact ⟨⟨F, G, h1.below hb, h2.below hb, h3, fun k hk => .inl (h4 k hk), fun k hk => .inl (h5 k hk), fun k hk => hk.elim (fun h => Nat.lt_of_lt_of_le (h6 k h) hb.size) (fun h => h.2)⟩, (Mods.refl U w).below hb⟩
theorem PairTo.refl (H : Pair2 w d x s1 s2 U) : PairTo U w w d x s1 s2 := PairTo.of_below H (nu_refl w)
theorem Pair2.wider {V : Nat → Prop} (H : Pair2 w d x s1 s2 U) (hU : ∀ k, U k → V k) (hV : ∀ k, V k → k < w.heap.size) : Pair2 w d x s1 s2 V := by
  obtain ⟨F, G, h1, h2, h3, h4, h5, h6⟩ := H
  exact ⟨F, G, h1, h2, h3, fun k hk => hU k (h4 k hk), fun k hk => hU k (h5 k hk), hV⟩
theorem PairTo.trans {a b : World} {t1 t2 : Dv} (h : PairTo U w a d x s1 s2) (h' : PairTo (Grown U w a) a b d x t1 t2) : PairTo U w b d x t1 t2 :=
  ⟨h'.1.wider (fun k hk => by
    rcases hk with (hk | hk) | hk
    · exact .inl hk
    · exact .inr ⟨hk.1, Nat.lt_of_lt_of_le hk.2 h'.2.size⟩
    · exact .inr ⟨Nat.le_trans h.2.size hk.1, hk.2⟩) (fun k hk => by
    rcases hk with hk | hk
    · exact h'.1.lt k (.inl (.inl hk))
    · exact hk.2), h.2.trans h'.2 (fun k hk => by
    rcases hk with hk | hk
    · exact .inl hk
    · exact .inr hk.1)⟩
theorem PairTo.then_below {a b : World} (h : PairTo U w a d x s1 s2) (hb : Below a.heap.size a b) : PairTo U w b d x s1 s2 := h.trans (PairTo.of_below h.1 hb)
theorem Pair2.below (H : Pair2 w d x s1 s2 U) (hb : Below w.heap.size w w') : Pair2 w' d x s1 s2 U := by
  obtain ⟨F, G, h1, h2, h3, h4, h5, h6⟩ := H
  exact ⟨F, G, h1.below hb, h2.below hb, h3, h4, h5, fun k hk => Nat.lt_of_lt_of_le (h6 k hk) hb.size⟩
theorem PairTo.ahead {a b : World} {t1 t2 : Dv} (hb : Below w.heap.size w a) (hU : ∀ k, U k → k < w.heap.size) (h : PairTo U a b d x t1 t2) : PairTo U w b d x t1 t2 :=
  ⟨h.1.wider (fun k hk => by
    rcases hk with hk | hk
    · exact .inl hk
    · exact .inr ⟨Nat.le_trans hb.size hk.1, hk.2⟩) (fun k hk => by
    rcases hk with hk | hk
    · exact h.1.lt k (.inl hk)
    · exact hk.2), ⟨h.2.os.trans hb.os, h.2.tape.trans hb.tape, h.2.output.trans hb.output, Nat.le_trans hb.size h.2.size, fun k hk hn => (h.2.block k (Nat.lt_of_lt_of_le hk hb.size) hn).trans (hb.block k hk)⟩⟩
/-- A call of the program's device. -/
theorem Pair2.dev (H : Pair2 w d x s1 s2 U) (C : ∀ F, DevRep w d s1 F → (∀ k, F k → U k) → Calls Try.prog f args w fun e w' => P e w' ∧ DevNext F w w' d s1') : Calls Try.prog f args w fun e w' => P e w' ∧ PairTo U w w' d x s1' s2 := by
  obtain ⟨F, G, h1, h2, h3, h4, h5, h6⟩ := H
  refine (C F h1 h4).mono fun e w' h => ⟨h.1, ⟨Grown F w w', G, h.2.1, h2.mods h.2.2 (fun k hk e => h3 k e hk), fun k hk hg => ?_, grown_up h4, fun k hk => .inl (h5 k hk), fun k hk => ?_⟩, h.2.2.wider h4⟩
  · rcases hk with hk | hk
    · exact h3 k hk hg
    · have := h2.2.1 k hg; omega
  · rcases hk with hk | hk
    · exact Nat.lt_of_lt_of_le (h6 k hk) h.2.2.size
    · exact hk.2
/-- A call of the document's device. -/
theorem Pair2.ref (H : Pair2 w d x s1 s2 U) (C : ∀ G, RefRep w x s2 G → (∀ k, G k → U k) → Calls Try.prog f args w fun e w' => P e w' ∧ RefNext G w w' x s2') : Calls Try.prog f args w fun e w' => P e w' ∧ PairTo U w w' d x s1 s2' := by
  obtain ⟨F, G, h1, h2, h3, h4, h5, h6⟩ := H
  refine (C G h2 h5).mono fun e w' h => ⟨h.1, ⟨F, Grown G w w', h1.mods h.2.2 h3, h.2.1, fun k hk hg => ?_, fun k hk => .inl (h4 k hk), grown_up h5, fun k hk => ?_⟩, h.2.2.wider h5⟩
  · rcases hg with hg | hg
    · exact h3 k hk hg
    · have := h1.2.1 k hk; omega
  · rcases hk with hk | hk
    · exact Nat.lt_of_lt_of_le (h6 k hk) h.2.2.size
    · exact hk.2
/-- Of what was reached: the next call. -/
theorem PairTo.dev {w1 : World} (N : PairTo U w1 w d x s1 s2) (C : ∀ F, DevRep w d s1 F → (∀ k, F k → Grown U w1 w k) → Calls Try.prog f args w fun e w' => P e w' ∧ DevNext F w w' d s1') : Calls Try.prog f args w fun e w' => P e w' ∧ PairTo U w1 w' d x s1' s2 :=
  (N.1.dev C).mono fun e w' h => ⟨h.1, N.trans h.2⟩
theorem PairTo.ref {w1 : World} (N : PairTo U w1 w d x s1 s2) (C : ∀ G, RefRep w x s2 G → (∀ k, G k → Grown U w1 w k) → Calls Try.prog f args w fun e w' => P e w' ∧ RefNext G w w' x s2') : Calls Try.prog f args w fun e w' => P e w' ∧ PairTo U w1 w' d x s1 s2' :=
  (N.1.ref C).mono fun e w' h => ⟨h.1, N.trans h.2⟩
end
end Go.Proofs.Ytjmghpoknlffiaa
