/-
  A cipher, a block and the document's key beside each other.
-/
import Derived.Test.YtnojbjconiddoaaAesR8
import Derived.Test.YtnojbjconiddoaaAes9
namespace Go.Proofs.Ytnojbjconiddoaa
open Go.ChangeShapes Go.WideShapes Go.ChangeAt Go.RowKit Fld Aes
set_option linter.unusedSimpArgs false

structure CBK (w : World) (C R : Nat) (W : List Nat) (B : Nat) (b : List Nat) (KB : Nat) (L : List Value) (v : Value) : Prop where
  c : CiphAt w C W R
  b : Blk w B 22 (b.map vb).toArray
  k : Blk w KB 44 L.toArray
  r : RowsAt w v W
theorem CBK.below {w w' : World} {C R : Nat} {W : List Nat} {B : Nat} {b : List Nat} {KB : Nat} {L : List Value} {v : Value} (h : CBK w C R W B b KB L v) (hb : Below w.heap.size w w') : CBK w' C R W B b KB L v := ⟨h.c.below hb, h.b.below hb h.b.lt, h.k.below hb h.k.lt, h.r.below hb⟩
theorem CBK.drew {w : World} {C R : Nat} {W : List Nat} {B : Nat} {b : List Nat} {KB : Nat} {L : List Value} {v : Value} (h : CBK w C R W B b KB L v) : CBK w.drew C R W B b KB L v := h.below (nu_drew (nu_refl w))
theorem refEnc_is {w : World} {v : Value} {W : List Nat} {R : Nat} (hv : RowsAt w v W) (hK : Keyed W R) {L : List Value} (hL : L = keyL v) {b D : List Nat} (hb : St16 b) (hD : enc W R b = D) :
    Calls Try.prog 30 #[.agg L.toArray, .agg (b.map vb).toArray] w fun e w' => e = .returned (.agg (D.map vb).toArray) ∧ Below w.heap.size w w' := by
  rw [hL, ← hD]
  exact refEncrypt_any hv hK b hb
theorem refDec_is {w : World} {v : Value} {W : List Nat} {R : Nat} (hv : RowsAt w v W) (hK : Keyed W R) {L : List Value} (hL : L = keyL v) {b D : List Nat} (hb : St16 b) (hD : dec W R b = D) :
    Calls Try.prog 33 #[.agg L.toArray, .agg (b.map vb).toArray] w fun e w' => e = .returned (.agg (D.map vb).toArray) ∧ Below w.heap.size w w' := by
  rw [hL, ← hD]
  exact refDecrypt_any hv hK b hb
theorem keyL_one (v : Value) (h : v.oneCell' = true) : ∀ u ∈ keyL v, u.oneCell' = true := by
  intro u hu
  rcases List.mem_cons.1 hu with rfl | hu
  · exact h
  · rcases List.mem_append.1 hu with hu | hu <;> exact vb_one _ u hu
theorem keyZ_one : ∀ u ∈ keyZ, u.oneCell' = true := by
  intro u hu
  rcases List.mem_cons.1 hu with rfl | hu
  · rfl
  · rcases List.mem_append.1 hu with hu | hu <;> exact vb_one _ u hu
theorem RowsAt.one {w : World} {v : Value} {W : List Nat} (h : RowsAt w v W) : v.oneCell' = true := by
  obtain ⟨m, c, cur, rfl, _⟩ := h
  rfl
theorem zero_key_size : (Try.zeroCells44).size = 513 := by rw [zero_key, List.size_toArray, keyZ_len]
end Go.Proofs.Ytnojbjconiddoaa
