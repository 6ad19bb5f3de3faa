/-
  The device and the register as RegPlays needs them; an act's cells, loaded and stored whole.
-/
import Derived.Test.YthlofbkbaabamaaRegQ
import Derived.Test.YthlofbkbaabamaaReg5
import Derived.Test.YthlofbkbaabamaaRegH
namespace Go.Proofs.Ythlofbkbaabamaa
open Go.ChangeShapes Go.WideShapes Go.ChangeAt Go.RowKit

theorem spentAr_max {ar : Int} (h : 0 ≤ ar) : spentAr ar = max (ar - 1) 0 := by
  unfold spentAr
  split <;> omega
section
variable {w : World} {g d : Nat} {cur s : St} {st wa : Value} {ar co : Int} {cp wr : Value}
theorem write_form (hgd : g ≠ d) (hc : StOk cur) (hs : StOk s) (h0 : 0 ≤ ar) (h1 : ar ≤ 9223372036854775807) (hf : followsB cur s = false) (h : RegAt w g d cur) (hd : DevAt w d st wa false ar co cp wr) :
    Calls Try.prog 21 #[.pointer (some ⟨g, 0, none⟩), .agg (stA s)] w fun e w' => e = .returned (.int .i64 3) ∧ Below w.heap.size w w' := by
  refine (regWrite_up h hd hgd hc hs h0 h1).mono ?_
  rintro e w' (⟨_, he, hb⟩ | ⟨hf', _⟩ | ⟨hf', _⟩)
  · exact ⟨he, hb⟩
  · rw [hf] at hf'; cases hf'
  · rw [hf] at hf'; cases hf'
theorem write_armed (hgd : g ≠ d) (hc : StOk cur) (hs : StOk s) (hf : followsB cur s = true) (h : RegAt w g d cur) (hd : DevAt w d st wa false 1 co cp wr) :
    Calls Try.prog 21 #[.pointer (some ⟨g, 0, none⟩), .agg (stA s)] w fun e w' => e = .returned (.int .i64 7) ∧ RegAt w' g d cur ∧ (∃ co', DevAt w' d st wa true 0 co' cp wr) ∧ Touch g d w w' := by
  refine (regWrite_up h hd hgd hc hs (by omega) (by omega)).mono ?_
  rintro e w' (⟨hf', _⟩ | ⟨_, _, he, hr, hd', ht⟩ | ⟨_, hso, _⟩)
  · rw [hf] at hf'; cases hf'
  · exact ⟨he, hr, ⟨_, hd'⟩, ht⟩
  · exact absurd hso (by decide)
theorem write_goes (hgd : g ≠ d) (hc : StOk cur) (hs : StOk s) (h0 : 0 ≤ ar) (h1 : ar ≤ 9223372036854775807) (hne : ¬ ar = 1) (hf : followsB cur s = true) (h : RegAt w g d cur) (hd : DevAt w d st wa false ar co cp wr) :
    Calls Try.prog 21 #[.pointer (some ⟨g, 0, none⟩), .agg (stA s)] w fun e w' => e = .returned (.int .i64 0) ∧ RegAt w' g d s ∧ (∃ co', DevAt w' d st wa false (max (ar - 1) 0) co' cp wr) ∧ Touch g d w w' := by
  refine (regWrite_up h hd hgd hc hs h0 h1).mono ?_
  rintro e w' (⟨hf', _⟩ | ⟨_, hso, _⟩ | ⟨_, _, he, hr, hd', ht⟩)
  · rw [hf] at hf'; cases hf'
  · unfold spentOff at hso
    exact absurd (of_decide_eq_true hso) hne
  · rw [spentAr_max h0] at hd'
    exact ⟨he, hr, ⟨_, hd'⟩, ht⟩
theorem spend_armed (hd : DevAt w d st wa false 1 co cp wr) :
    Calls Try.prog 28 #[.pointer (some ⟨d, 0, none⟩)] w fun e w' => e = .returned (.bool false) ∧ (∃ co', DevAt w' d st wa true 0 co' cp wr) ∧ w.grownBy w' (some d) := by
  refine (spend_on hd (by omega) (by omega)).mono ?_
  rintro e w' ⟨he, hd', hg⟩
  exact ⟨he, ⟨_, hd'⟩, hg⟩
theorem spend_goes (h0 : 0 ≤ ar) (h1 : ar ≤ 9223372036854775807) (hne : ¬ ar = 1) (hd : DevAt w d st wa false ar co cp wr) :
    Calls Try.prog 28 #[.pointer (some ⟨d, 0, none⟩)] w fun e w' => e = .returned (.bool true) ∧ (∃ co', DevAt w' d st wa false (max (ar - 1) 0) co' cp wr) ∧ w.grownBy w' (some d) := by
  refine (spend_on hd h0 h1).mono ?_
  rintro e w' ⟨he, hd', hg⟩
  have hso : spentOff ar = false := decide_eq_false hne
  rw [hso] at he hd'
  rw [spentAr_max h0] at hd'
  exact ⟨he, ⟨_, hd'⟩, hg⟩
theorem up_nu {off : Bool} (h : DevAt w d st wa off ar co cp wr) :
    Calls Try.prog 29 #[.pointer (some ⟨d, 0, none⟩)] w fun e w' => e = .returned (.bool (!off)) ∧ Below w.heap.size w w' := by
  refine (up_any h).mono ?_
  rintro e w' ⟨he, rfl⟩
  exact ⟨he, nu_refl _⟩
end

/-- An act's cells. -/
def actL (k n : Int) (s : St) : List Value := .int .i64 k :: .int .i64 n :: stL s
def actA (k n : Int) (s : St) : Array Value := (actL k n s).toArray
theorem act_len {k n : Int} {s : St} (h : StOk s) : (actL k n s).length = 74 := by simp [actL, st_len h]
theorem act_one {k n : Int} {s : St} : ∀ v ∈ actL k n s, v.oneCell' = true := fun v hv => by
  simp only [actL, List.mem_cons] at hv
  rcases hv with rfl | rfl | hv
  · rfl
  · rfl
  · exact st_one v hv
theorem size_act : (Try.prog.info? 42).map (·.size) = some 74 := by kernel_rfl
theorem zact_size : (Try.zeroCells42).size = 74 := by kernel_rfl
def LoadsAct (W : World) (b f : Nat) (k n : Int) (s : St) : Prop := ∀ (o : Oper) (a : Act) (x : Operand), o.op = .load 42 x → a.eval x = .pointer (some ⟨b, f, none⟩) → (execOp a.eval o).run Try.prog W = .ok (.value (.agg (actA k n s))) W
theorem loads_act {W : World} {b f : Nat} {k n : Int} {s : St} (hs : StOk s) (h : W.rangeAt b f (actL k n s)) : LoadsAct W b f k n s := fun _ _ x ho hx =>
  exec_load_mid _ x b f (actL k n s) (.struct (Try.prog.fieldsOf 42)) ho hx h (by kernel_rfl) rfl (by rw [act_len hs]; kernel_rfl)
theorem loads_in_act {W : World} {g : Nat} {t : TypeId} {k n : Int} {s : St} (hs : StOk s) (h : Blk W g t (actA k n s)) : LoadsSt W g 2 s := fun _ _ x ho hx =>
  exec_load_st s hs x g 2 ho hx (range_mid h (l := [.int .i64 k, .int .i64 n]) (r := []) (by simp [actA, actL]) rfl)
theorem act_cells {w : World} {g : Nat} {t : TypeId} {k n : Int} {s : St} (h : Blk w g t (actA k n s)) : w.cell? ⟨g, 0, none⟩ = some (.int .i64 k) ∧ w.cell? ⟨g, 1, none⟩ = some (.int .i64 n) :=
  ⟨h.at 0 _ (by simp [actA, actL]), h.at 1 _ (by simp [actA, actL])⟩
end Go.Proofs.Ythlofbkbaabamaa
