/-
  Appends onto a row of the call's own from whatever source (nil, empty or not); what such a row reads as; no program in sight.
-/
import Derived.Test.YtnojbjconiddoaaInts
import Derived.WalkKit
import Derived.Laws.AppendOwn
import Derived.Laws.AppendOwnNone
namespace Go.Proofs.Ytnojbjconiddoaa
open Go.ChangeShapes Go.WideShapes Go.ChangeAt Go.RowKit

/-- A byte as a value. -/
def vb (n : Nat) : Value := .int .u8 (n : Int)
theorem vb_one (l : List Nat) : ∀ u ∈ l.map vb, u.oneCell' = true := by
  intro u hu
  obtain ⟨x, _, rfl⟩ := List.mem_map.1 hu
  rfl

section
variable {P : Program} {w : World}

theorem wpList_append_src {ops : Array Oper} {rest : List Oper} {o : Oper} {a : Act} {Q : Exit → Act → World → Prop} (hgd : o.guard = none) (s x : Operand) (t : TypeId)
    (ho : o.op = .call { callee := .builtin .append, args := #[s, x], argTypes := #[t, t] })
    (base : Nat) (e : TypeId) (i : TypeInfo) (z : Value) (size bytes : Nat) (ht : P.underlying t = some (.slice e)) (hi : P.info? e = some i) (hz : i.zero = some z)
    (hsize : i.size = size) (hby : i.bytes = bytes) (hzs : z.cells.size = size) (hsz : 0 < size)
    (v : Value) (n : Nat) (xs : List Value) (hs : a.eval s = v) (hown : w.ownsRow base e size v n xs)
    (ao : Option Addr) (m c : Nat) (news : List Value) (hx : a.eval x = .slice ao m c) (hnone : ao = none → m = 0 ∧ c = 0) (hl : news.length = m * size)
    (hnews : ∀ ad, ao = some ad → ∀ j u, news[j]? = some u → w.cell? (ad.add j) = some u) (h1 : ∀ u ∈ news, u.oneCell' = true)
    (h63 : n + m ≤ maxLen) (hbytes : (n + m) * bytes ≤ 140737488355328) (hbase : base ≤ w.heap.size)
    (h : ∀ v' w', w'.ownsRow base e size v' (n + m) (xs ++ news) → w.grownBy w' v.ownBlock → wpList P ops Q rest (a.put o.dst v') w') : wpList P ops Q (o :: rest) a w := by
  cases ao with
  | none =>
    obtain ⟨rfl, rfl⟩ := hnone rfl
    have hn : news = [] := List.eq_nil_of_length_eq_zero (by simpa using hl)
    subst hn
    exact wpList_append_own_none hgd s x t ho base e i size ht hi v n xs hs hown hx (h v w (by simpa using hown) (World.grownBy.refl w _))
  | some ad => exact wpList_append_own w hgd s x t ho base e i z size bytes ht hi hz hsize hby hzs hsz v n xs hs hown ad m c news hx hl (hnews ad rfl) h1 h63 hbytes hbase fun v' w' h2 h3 _ => h v' w' h2 h3
end

/-- A slice of bytes that holds xs, with what an append asks of it. -/
def BytesIn (w : World) (a : Option Addr) (len cap : Nat) (xs : List Nat) : Prop := IntsIn w .u8 a len xs ∧ (a = none → len = 0 ∧ cap = 0)
theorem BytesIn.src {w : World} {a : Option Addr} {len cap : Nat} {xs : List Nat} (h : BytesIn w a len cap xs) : ∀ ad, a = some ad → ∀ (j : Nat) (u : Value), (xs.map vb)[j]? = some u → w.cell? (ad.add j) = some u := by
  rintro ad rfl j u hu
  rw [List.getElem?_map, Option.map_eq_some_iff] at hu
  obtain ⟨x, hx, rfl⟩ := hu
  have hj : j < xs.length := (List.getElem?_eq_some_iff.1 hx).1
  obtain ⟨b, off, e, _, hc⟩ := h.1.2.2 (by rw [← h.1.1]; omega)
  injection e with e
  subst e
  rw [Go.WideShapes.add_plain]
  exact hc j x hx
theorem BytesIn.keep {w w' : World} {a : Option Addr} {len cap : Nat} {xs : List Nat} (h : BytesIn w a len cap xs) (hb : Below w.heap.size w w') : BytesIn w' a len cap xs := ⟨h.1.keep hb, h.2⟩
theorem BytesIn.drewN {w : World} {a : Option Addr} {len cap : Nat} {xs : List Nat} (h : BytesIn w a len cap xs) (n : Nat) : BytesIn (w.drewN n) a len cap xs := h
theorem BytesIn.nil_ (w : World) : BytesIn w none 0 0 [] := ⟨⟨rfl, by simp, fun h => absurd h (by omega)⟩, fun _ => ⟨rfl, rfl⟩⟩
theorem bytesIn_of_row {w : World} {a : Option Addr} {len cap : Nat} {zs : List Int} (h : RowSaid .u8 w a len cap zs) : len ≤ cap ∧ ∃ xs, BytesIn w a len cap xs := by
  obtain ⟨_, h2, xs, h3⟩ := intsIn_of_row u8_nonneg h
  refine ⟨h2, xs, h3, ?_⟩
  rcases h with ⟨rfl, rfl, rfl, rfl⟩ | ⟨x, rfl, _⟩
  · exact fun _ => ⟨rfl, rfl⟩
  · exact fun h => by cases h
theorem wf_u8_lt {n : Nat} (h : (Lit.int .u8 (n : Int)).wf = true) : n < 256 := by
  have := bounds_u8 h
  omega
theorem wf_u8_of {n : Nat} (h : n < 256) : (Lit.int .u8 (n : Int)).wf = true := by
  simp [Lit.wf, IntKind.min, IntKind.max, IntKind.bits, IntKind.signed]
  omega

/-- A row of bytes of the call's own: its value, and the bytes. -/
def OwnB (w : World) (base : Nat) (e : TypeId) (v : Value) (xs : List Nat) : Prop := w.ownsRow base e 1 v xs.length (xs.map vb) ∧ ∀ x ∈ xs, x < 256
theorem own_mono {w : World} {base base' : Nat} {e : TypeId} {v : Value} {xs : List Nat} (h : OwnB w base e v xs) (hb : base' ≤ base) : OwnB w base' e v xs := by
  refine ⟨⟨h.1.1, ?_⟩, h.2⟩
  rcases h.1.2 with h2 | ⟨g, cap, cur, h2, h3, r⟩
  · exact .inl h2
  · exact .inr ⟨g, cap, cur, h2, Nat.le_trans hb h3, r⟩
/-- What a row of the call's own reads as. -/
theorem OwnB.reads {w : World} {base : Nat} {e : TypeId} {v : Value} {xs : List Nat} (h : OwnB w base e v xs) : ∃ a cap, v = .slice a xs.length cap ∧ xs.length ≤ cap ∧ cap ≤ maxLen ∧ BytesIn w a xs.length cap xs := by
  obtain ⟨⟨_, h2⟩, hlt⟩ := h
  have hwf : ∀ n ∈ xs, (Lit.int .u8 (n : Int)).wf = true := fun n hn => wf_u8_of (hlt n hn)
  rcases h2 with ⟨rfl, h0⟩ | ⟨g, cap, cur, rfl, hbg, hh, hnc, hcm, hsz, htk⟩
  · have : xs = [] := List.eq_nil_of_length_eq_zero h0
    subst this
    exact ⟨none, 0, rfl, Nat.le_refl _, Nat.zero_le _, BytesIn.nil_ w⟩
  · refine ⟨_, cap, rfl, hnc, hcm, ⟨rfl, hwf, fun hp => ⟨g, 0, rfl, ?_, ?_⟩⟩, fun h => by cases h⟩
    · exact Blk.lt (t := e) (cs := cur) hh
    · intro j n hn
      have hj : j < xs.length := (List.getElem?_eq_some_iff.1 hn).1
      rw [Nat.zero_add]
      refine Blk.at (t := e) hh j _ ?_
      have e1 : (cur.toList.take (xs.length * 1))[j]? = some (vb n) := by rw [htk, List.getElem?_map, hn]; rfl
      rw [List.getElem?_take] at e1
      split at e1
      · rw [← Array.getElem?_toList]; exact e1
      · cases e1
/-- What a row of the call's own reads as, and where it lies. -/
theorem OwnB.lies {w : World} {base : Nat} {e : TypeId} {v : Value} {xs : List Nat} (h : OwnB w base e v xs) : ∃ a cap, v = .slice a xs.length cap ∧ xs.length ≤ cap ∧ cap ≤ maxLen ∧ BytesIn w a xs.length cap xs ∧ ∀ ad, a = some ad → base ≤ ad.block ∧ ad.block < w.heap.size := by
  obtain ⟨a, cap, rfl, h1, h2, h3⟩ := h.reads
  refine ⟨a, cap, rfl, h1, h2, h3, ?_⟩
  rintro ad rfl
  rcases h.1.2 with ⟨h4, _⟩ | ⟨g, cap', cur, h4, h5, h6, _⟩
  · cases h4
  · injection h4 with h4
    injection h4 with h4
    subst h4
    exact ⟨h5, Blk.lt (t := e) (cs := cur) h6⟩
end Go.Proofs.Ytnojbjconiddoaa
