/-
  What the document's New holds while it works; storing into the midst of a block.
-/
import Derived.Test.YtnojbjconiddoaaAesR4
import Derived.Test.YtnojbjconiddoaaAesR7
import Derived.Laws.OwnMore
import Derived.Deep.AppendLies
namespace Go.Proofs.Ytnojbjconiddoaa
open Go.ChangeShapes Go.WideShapes Go.ChangeAt Go.RowKit Fld Aes
set_option linter.unusedSimpArgs false

theorem e16_byte {o : Oper} {a : Act} {w : World} {g i : Nat} {y : Int} (hc : w.cell? ⟨g, i, none⟩ = some (.int .u8 y)) (x : Operand) (ho : o.op = .load 5 x) (hx : a.eval x = .pointer (some ⟨g, i, none⟩)) :
    (execOp a.eval o).run Try.prog w = .ok (.value (.int .u8 y)) w := by
  unfold execOp
  simp only [ho, hx]
  go_simp
theorem Blk.fillMid {w : World} {g : Nat} {t : TypeId} {l m r : List Value} (h : Blk w g t (l ++ m ++ r).toArray) (vs : List Value) (hl : vs.length = m.length) {k : Nat} (hk : k = l.length) : Blk (w.setCells g k vs) g t (l ++ vs ++ r).toArray := by
  subst hk
  have h1 := blk_setCells vs l.length w _ h
  have h2 := fold_set vs l.length (l ++ m ++ r).toArray (by simp; omega)
  have h3 : (l ++ m ++ r).toArray.toList.take l.length = l := by simp
  have h4 : (l ++ m ++ r).toArray.toList.drop (l.length + vs.length) = r := by rw [hl]; simp
  rw [h3, h4] at h2
  have h5 := congrArg List.toArray h2
  rw [Array.toArray_toList] at h5
  rw [h5] at h1
  exact h1
theorem wpList_store_in {P : Program} {ops : Array Oper} {rest : List Oper} {o : Oper} {a : Act} {w : World} {Q : Exit → Act → World → Prop} (hgd : o.guard = none) (ty : TypeId) (x y : Operand) (ho : o.op = .store ty x y) (g k : Nat) (vs : List Value) (hx : a.eval x = .pointer (some ⟨g, k, none⟩)) (hy : a.eval y = .agg vs.toArray)
    (t : TypeId) (cs : Array Value) (hb : Blk w g t cs) (hl : k + vs.length ≤ cs.size) (hi : (P.info? ty).map (·.size) = some vs.length) (h1 : ∀ v ∈ vs, v.oneCell' = true)
    (h : wpList P ops Q rest (a.put o.dst undef) (w.setCells g k vs)) : wpList P ops Q (o :: rest) a w :=
  wpList_store_mid hgd ty x y ho g k vs.toArray hx hy (hb.there k _ (by simpa using hl)) (by simpa using hi) (all_oneCell_toArray h1) (by simpa using h)
/-- The zero key. -/
def keyZ : List Value := .slice none 0 0 :: ((List.replicate 256 0).map vb ++ (List.replicate 256 0).map vb)
theorem zero_key : Try.zeroCells44 = keyZ.toArray := by kernel_rfl
theorem key_box {w : World} {g : Nat} {t : TypeId} (h : Blk w g t keyZ.toArray) : Blk (w.setCells g 1 (boxL.map vb)) g t ([Value.slice none 0 0] ++ boxL.map vb ++ (List.replicate 256 0).map vb).toArray :=
  Blk.fillMid (l := [.slice none 0 0]) (m := (List.replicate 256 0).map vb) (r := (List.replicate 256 0).map vb) h (boxL.map vb) (by rw [List.length_map, List.length_map, boxL_len, List.length_replicate]) rfl
theorem key_back {w : World} {g : Nat} {t : TypeId} (h : Blk w g t ([Value.slice none 0 0] ++ boxL.map vb ++ (List.replicate 256 0).map vb).toArray) : Blk (w.setCells g 257 (backL.map vb)) g t (keyL (.slice none 0 0)).toArray := by
  have h2 := Blk.fillMid (l := [.slice none 0 0] ++ boxL.map vb) (m := (List.replicate 256 0).map vb) (r := []) (by rw [List.append_nil]; exact h) (backL.map vb) (by rw [List.length_map, List.length_map, backL_len, List.length_replicate]) (k := 257) (by rw [List.length_append, List.length_map, boxL_len]; rfl)
  rw [List.append_nil] at h2
  exact h2
theorem keyL_set (v v' : Value) : (keyL v).toArray.setIfInBounds 0 v' = (keyL v').toArray := by
  rw [List.setIfInBounds_toArray, keyL, keyL, List.set_cons_zero]
/-- The bytes of a word, as values. -/
def elL (y : Nat) : List Nat := [wb y 0, wb y 1, wb y 2, wb y 3]
theorem flat_more (W : List Nat) (y : Nat) : (flat (W ++ [y])).map vb = (flat W).map vb ++ (elL y).map vb := by rw [flat_snoc, List.map_append]; rfl
theorem info_el : (Try.prog.info? 51).map (fun i => (i.zero, i.size, i.bytes)) = some (some (.agg (z4.map vb).toArray), 4, 4) := by kernel_rfl
theorem own_apart {w w' : World} {base : Nat} {e : TypeId} {size : Nat} {v : Value} {n k : Nat} {xs : List Value} (h : w.ownsRow base e size v n xs) (hb : w.grownBy w' (some k)) (hk : w.heap.size ≤ k) : w'.ownsRow base e size v n xs :=
  h.kept hb (by
    cases hv : v.ownBlock with
    | none => exact .inl rfl
    | some j =>
      refine .inr (fun e => ?_)
      injection e with e
      have := (h.lt j hv).2
      omega)
/-- What New holds: the key, its result, its box, the rows so far. -/
structure RK (w : World) (KK KR X B0 : Nat) (W : List Nat) (v : Value) (u : World) : Prop where
  c : Blk u KK 44 (keyL v).toArray
  z : Blk u KR 44 keyZ.toArray
  x : Blk u X 42 (boxL.map vb).toArray
  own : u.ownsRow B0 51 4 v W.length ((flat W).map vb)
  nu : Below w.heap.size w u
  base : B0 ≤ u.heap.size
  ord : w.heap.size ≤ KK ∧ KK < B0 ∧ w.heap.size ≤ KR ∧ KR < B0 ∧ X < B0 ∧ KR ≠ KK ∧ X ≠ KK
section
variable {w u u' : World} {KK KR X B0 : Nat} {W : List Nat} {v : Value}
theorem RK.under (H : RK w KK KR X B0 W v u) (hb : Below u.heap.size u u') : RK w KK KR X B0 W v u' :=
  ⟨H.c.below hb H.c.lt, H.z.below hb H.z.lt, H.x.below hb H.x.lt, own_kept H.own hb, nu_trans H.nu hb, Nat.le_trans H.base hb.size, H.ord⟩
/-- .. behind a block that came later. -/
theorem RK.later (H : RK w KK KR X B0 W v u) {u0 : World} {k : Nat} (H0 : u.heap.size ≤ k) (hu : Below u.heap.size u u0) (hb : u0.grownBy u' (some k)) : RK w KK KR X B0 W v u' :=
  H.under (below_turned hu hb hu.size H0)
theorem RK.push (H : RK w KK KR X B0 W v u) {v' : Value} {y : Nat} (hown : u'.ownsRow B0 51 4 v' (W.length + 1) ((flat W).map vb ++ (elL y).map vb)) (hg : u.grownBy u' v.ownBlock) :
    RK w KK KR X B0 (W ++ [y]) v' (u'.setCell ⟨KK, 0, none⟩ v') ∧ Blk u' KK 44 (keyL v).toArray ∧ Below w.heap.size w u' := by
  have hb : Below B0 u u' := below_grown hg H.base (fun k hk => (H.own.lt k hk).1)
  have hc : Blk u' KK 44 (keyL v).toArray := H.c.below hb H.ord.2.1
  have hgs : u'.grownBy (u'.setCell ⟨KK, 0, none⟩ v') (some KK) := gb_set (gb_refl u' (some KK)) (p := ⟨KK, 0, none⟩) (.inl rfl) v'
  have hput := hc.put 0 v'
  rw [keyL_set] at hput
  refine ⟨⟨hput, (H.z.below hb H.ord.2.2.2.1).far (p := ⟨KK, 0, none⟩) H.ord.2.2.2.2.2.1 v', (H.x.below hb H.ord.2.2.2.2.1).far (p := ⟨KK, 0, none⟩) H.ord.2.2.2.2.2.2 v', ?_, ?_, Nat.le_trans H.base (Nat.le_trans hb.size hgs.size), H.ord⟩, hc, H.nu.trans (hb.mono (by have := H.ord; omega))⟩
  · have h := own_off hown hgs H.ord.2.1
    rw [List.length_append, flat_more]
    exact h
  · exact nu_set (H.nu.trans (hb.mono (by have := H.ord; omega))) (p := ⟨KK, 0, none⟩) H.ord.1 v'
theorem RK.rows (H : RK w KK KR X B0 W v u) (h0 : 0 < W.length) : RowsAt u v W := by
  rcases H.own.2 with ⟨_, h⟩ | ⟨m, c, cur, hv, hb, hm, hc1, hc2, _, htk⟩
  · omega
  · exact ⟨m, c, cur, hv, hm, htk, hc1, hc2⟩
end
theorem row_at {w : World} {base m c n : Nat} {W : List Nat} (h : w.ownsRow base 51 4 (.slice (some ⟨m, 0, none⟩) n c) n ((flat W).map vb)) (hl : W.length = n) (i j : Nat) (hi : i < n) (hj : j < 4) : w.cell? ⟨m, i * 4 + j, none⟩ = some (.int .u8 ((wb (W.getD i 0) j : Nat) : Int)) := by
  rw [h.cellAt (i * 4 + j) (by omega), List.getElem?_map, show i * 4 + j = 4 * i + j by omega, flat_at W i j (by omega) hj]
  rfl
theorem row_range {w : World} {base m c n : Nat} {W : List Nat} (h : w.ownsRow base 51 4 (.slice (some ⟨m, 0, none⟩) n c) n ((flat W).map vb)) (hl : W.length = n) (i : Nat) (hi : i < n) : w.rangeAt m (i * 4) ((elL (W.getD i 0)).map vb) := fun j v hv => by
  rw [List.getElem?_map] at hv
  obtain ⟨x, hx, rfl⟩ := Option.map_eq_some_iff.1 hv
  have hj : j < 4 := (List.getElem?_eq_some_iff.1 hx).1
  rw [row_at h hl i j hi hj]
  have : j = 0 ∨ j = 1 ∨ j = 2 ∨ j = 3 := by omega
  rcases this with rfl | rfl | rfl | rfl <;> (cases hx; rfl)
theorem wb_top (g : Nat) (hg : g < 256) : wb (g * 16777216) 0 = g ∧ wb (g * 16777216) 1 = 0 ∧ wb (g * 16777216) 2 = 0 ∧ wb (g * 16777216) 3 = 0 := by
  simp only [wb]
  omega
theorem elL_at (t i : Nat) (h : i < 4) : (elL t)[i]? = some (wb t i) := by
  have : i = 0 ∨ i = 1 ∨ i = 2 ∨ i = 3 := by omega
  rcases this with rfl | rfl | rfl | rfl <;> rfl
theorem e4_load {o : Oper} {a : Act} {w : World} {b f : Nat} {cs : List Value} (hc : w.rangeAt b f cs) (h1 : cs.length = 4) (x : Operand) (ho : o.op = .load 51 x) (hx : a.eval x = .pointer (some ⟨b, f, none⟩)) :
    (execOp a.eval o).run Try.prog w = .ok (.value (.agg cs.toArray)) w :=
  exec_load_mid (P := Try.prog) (w := w) 51 x b f cs (.array 4 5) ho hx hc (by kernel_rfl) rfl (by rw [h1]; kernel_rfl)
/-- What the word ahead becomes, byte by byte. -/
theorem turn_zero (n j t : Nat) (h : j % n = 0) : elL (turnOf n j t) = [sb (wb t 1) ^^^ gpow 2 (j / n - 1), sb (wb t 2), sb (wb t 3), sb (wb t 0)] := by
  have hg := gpow_lt 2 (j / n - 1)
  have hT := wb_top (gpow 2 (j / n - 1)) hg
  have hs := wb_subW (rotW t)
  have hr := wb_rotW t
  unfold elL turnOf
  rw [if_pos h, wb_xor, wb_xor, wb_xor, wb_xor, hT.1, hT.2.1, hT.2.2.1, hT.2.2.2, hs.1, hs.2.1, hs.2.2.1, hs.2.2.2, hr.1, hr.2.1, hr.2.2.1, hr.2.2.2, Nat.xor_zero, Nat.xor_zero, Nat.xor_zero]
theorem turn_four (j t : Nat) (n : Nat) (h : ¬ j % n = 0) (h8 : n = 8) (h4 : j % 8 = 4) : elL (turnOf n j t) = [sb (wb t 0), sb (wb t 1), sb (wb t 2), sb (wb t 3)] := by
  have hs := wb_subW t
  unfold elL turnOf
  rw [if_neg h, if_pos ⟨h8, h4⟩, hs.1, hs.2.1, hs.2.2.1, hs.2.2.2]
theorem elL_xor (a b : Nat) : elL (a ^^^ b) = [wb a 0 ^^^ wb b 0, wb a 1 ^^^ wb b 1, wb a 2 ^^^ wb b 2, wb a 3 ^^^ wb b 3] := by
  unfold elL
  rw [wb_xor, wb_xor, wb_xor, wb_xor]
end Go.Proofs.Ytnojbjconiddoaa
