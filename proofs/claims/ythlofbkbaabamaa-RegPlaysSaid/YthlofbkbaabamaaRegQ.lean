/-
  reg.Register.Write and dev.Device.On as RegRises needs them.
-/
import Derived.Test.YthlofbkbaabamaaReg3
import Derived.Test.YthlofbkbaabamaaDev3
import Derived.Test.YthlofbkbaabamaaRegP
namespace Go.Proofs.Ythlofbkbaabamaa
open Go.ChangeShapes Go.WideShapes Go.ChangeAt Go.RowKit

theorem follows_facts {s t : St} (h : followsB s t = true) (hp : s.p ≠ 0) : t.p = s.p ∧ t.b = s.b ∧ t.wi = s.wi ∧ s.bo ≤ t.bo ∧ s.ve ≤ t.ve ∧ s.ep ≤ t.ep := by
  unfold followsB at h
  simp only [Bool.and_eq_true, Bool.or_eq_true, decide_eq_true_eq] at h
  rcases h.2 with rfl | ⟨⟨p1, p2, p3⟩, p4, p5, p6⟩
  · exact absurd rfl hp
  · exact ⟨p1.symm, p2.symm, p3.symm, p4, p5, p6⟩
theorem loads_range {W : World} {b f : Nat} {s : St} (hs : StOk s) (h : W.rangeAt b f (stL s)) : LoadsSt W b f s := fun _ _ x ho hx => exec_load_st s hs x b f ho hx h

/-- Write, armed for the next access or not armed. -/
theorem write_rises {w : World} {g d : Nat} {cur s : St} {st wa : Value} {ar co : Int} {cp wr : Value} (hgd : g ≠ d) (hc : StOk cur) (hs : StOk s) (ha : ar = 0 ∨ ar = 1) (h : RegAt w g d cur) (hd : DevAt w d st wa false ar co cp wr) :
    Calls Try.prog 21 #[.pointer (some ⟨g, 0, none⟩), .agg (stA s)] w fun e w' =>
      ∃ (x : Int) (cur' : St) (off' : Bool) (ar' co' : Int), e = .returned (.int .i64 x) ∧ (x = 0 ∧ s = cur' ∧ followsB cur s = true ∨ x = 3 ∧ cur = cur' ∨ x = 7 ∧ cur = cur') ∧ StOk cur' ∧ (ar' = 0 ∨ ar' = 1) ∧ RegAt w' g d cur' ∧ DevAt w' d st wa off' ar' co' cp wr ∧ Touch g d w w' := by
  refine (regWrite_up h hd hgd hc hs (by omega) (by omega)).mono ?_
  rintro e w' (⟨_, he, hb⟩ | ⟨hf, _, he, hr, hd', ht⟩ | ⟨hf, hso, he, hr, hd', ht⟩)
  · exact ⟨3, cur, false, ar, co, he, .inr (.inl ⟨rfl, rfl⟩), hc, ha, Blk.below h hb (Blk.lt h), Blk.below hd hb (Blk.lt hd), Touch.of_below hb⟩
  · exact ⟨7, cur, true, _, _, he, .inr (.inr ⟨rfl, rfl⟩), hc, by rcases ha with rfl | rfl <;> decide, hr, hd', ht⟩
  · exact ⟨0, s, false, _, _, he, .inl ⟨rfl, rfl, hf⟩, hs, by rcases ha with rfl | rfl <;> decide, hr, hd', ht⟩
/-- On, whether the power is gone or not. -/
theorem on_any {w : World} {d : Nat} {st : Value} {off : Bool} {ar co : Int} {cp wr : Value} (ha : ar = 0 ∨ ar = 1) (h : DevAt w d st (.slice none 0 0) off ar co cp wr) :
    Calls Try.prog 27 #[.pointer (some ⟨d, 0, none⟩), .slice none 0 0] w fun e w' => e = .returned (.tuple #[]) ∧ (∃ ar', (ar' = 0 ∨ ar' = 1) ∧ DevAt w' d st (.slice none 0 0) false ar' co cp wr) ∧ w.grownBy w' (some d) := by
  cases off
  · refine (on_up h).mono ?_
    rintro e w' ⟨he, rfl⟩
    exact ⟨he, ⟨ar, ha, h⟩, gb_refl _ _⟩
  · refine (on_down h).mono ?_
    rintro e w' ⟨he, h', hg⟩
    exact ⟨he, ⟨0, .inl rfl, h'⟩, hg⟩
theorem arm_one {w : World} {d : Nat} {st wa : Value} {ar co : Int} {cp wr : Value} (h : DevAt w d st wa false ar co cp wr) :
    Calls Try.prog 25 #[.pointer (some ⟨d, 0, none⟩), .int .i64 1] w fun e w' => e = .returned (.tuple #[]) ∧ DevAt w' d st wa false 1 co cp wr ∧ w.grownBy w' (some d) := arm_on h
end Go.Proofs.Ythlofbkbaabamaa
