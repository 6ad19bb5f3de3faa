/-
  '==' on two states.
-/
import Derived.Test.YthlofbkbaabamaaReg
import Derived.Test.YthlofbkbaabamaaBytes
import Derived.WalkKit
import Derived.Laws.StructEq
namespace Go.Proofs.Ythlofbkbaabamaa
open Go.ChangeShapes Go.WideShapes Go.ChangeAt Go.RowKit

theorem eqF {P : Program} {w : World} {d : Nat} {xs ys : Array Value} {f : Field} {fs : List Field} {T : TypeId} {off : Nat} {a b : Value} {r c : Bool} (hn : (f.name == "_") = false) (ht : f.type = T) (ho : f.offset = off)
    (ha : (part T xs off).run P w = .ok a w) (hb : (part T ys off).run P w = .ok b w) (he : (Op.equalIn d T a b).run P w = .ok r w) (h : (Op.eqFields d xs ys fs).run P w = .ok c w) :
    (Op.eqFields d xs ys (f :: fs)).run P w = .ok (r && c) w := by
  have hn' : f.name ≠ "_" := by rw [beq_eq_false_iff_ne] at hn; exact hn
  subst ht
  subst ho
  simp only [Op.eqFields, if_pos hn', Sem.run_bind, ha, hb, he, Result.andThen_ok]
  cases r
  · simp
  · simp [h]
theorem part_row {P : Program} {w : World} {t : TypeId} {n : Nat} {e : TypeId} {i : TypeInfo} (hu : P.underlying t = some (.array n e)) (hi : P.info? t = some i) {k : Nat} (hc : P.cellsOf t = k) (xs : Array Value) (off : Nat) :
    (part t xs off).run P w = .ok (.agg (xs.extract off (off + k))) w := by
  have h1 := run_sizeOf (P := P) w hi
  rw [hc] at h1
  simp [part, isAgg, run_underlying hu, h1]

theorem SF_list : (Try.prog.fieldsOf 26).toList = [(Try.prog.fieldsOf 26)[0]!, (Try.prog.fieldsOf 26)[1]!, (Try.prog.fieldsOf 26)[2]!, (Try.prog.fieldsOf 26)[3]!, (Try.prog.fieldsOf 26)[4]!, (Try.prog.fieldsOf 26)[5]!, (Try.prog.fieldsOf 26)[6]!, (Try.prog.fieldsOf 26)[7]!, (Try.prog.fieldsOf 26)[8]!, (Try.prog.fieldsOf 26)[9]!] := by kernel_rfl

theorem eq_state (s t : St) (hs : StOk s) (ht : StOk t) (w : World) :
    (Op.equalIn 10000 26 (.agg (stA s)) (.agg (stA t))).run Try.prog w = .ok (decide (s = t)) w := by
  rw [run_equalIn_struct w 9999 26 _ _ (by kernel_rfl) (by kernel_rfl)]
  rw [SF_list]
  have e : decide (s = t) = ((s.p == t.p) && ((s.b == t.b) && ((s.wi == t.wi) && ((s.bo == t.bo) && ((s.ve == t.ve) && ((s.ep == t.ep) && ((s.cu == t.cu) && ((s.bu == t.bu) && (decide (s.r = t.r) && (decide (s.m = t.m) && true)))))))))) := by
    obtain ⟨p, b, wi, bo, ve, ep, cu, bu, r, m⟩ := s
    obtain ⟨p', b', wi', bo', ve', ep', cu', bu', r', m'⟩ := t
    rw [Bool.eq_iff_iff]
    simp only [decide_eq_true_eq, St.mk.injEq, Bool.and_eq_true, beq_iff_eq, and_true]
  rw [e]
  have hr : ∀ (x : St) (h : StOk x), (part 24 (stA x) 8).run Try.prog w = .ok (.agg (x.r.map vb).toArray) w := fun x h => by
    rw [part_row (n := 32) (e := 5) (i := (Try.prog.info? 24).get!) (k := 32) (by kernel_rfl) (by kernel_rfl) (by kernel_rfl), st_r h]
  have hm : ∀ (x : St) (h : StOk x), (part 24 (stA x) 40).run Try.prog w = .ok (.agg (x.m.map vb).toArray) w := fun x h => by
    rw [part_row (n := 32) (e := 5) (i := (Try.prog.info? 24).get!) (k := 32) (by kernel_rfl) (by kernel_rfl) (by kernel_rfl), st_m h]
  have hq : ∀ (xs ys : List Nat), xs.length = 32 → ys.length = 32 → (Op.equalIn 9999 24 (.agg (xs.map vb).toArray) (.agg (ys.map vb).toArray)).run Try.prog w = .ok (decide (xs = ys)) w := fun xs ys hx hy =>
    run_equalIn_bytes' (P := Try.prog) w (e := 5) (n := 32) (i := (Try.prog.info? 5).get!) (k := .u8) 9997 (by kernel_rfl) (by kernel_rfl) (by kernel_rfl) (by kernel_rfl) (by kernel_rfl) xs ys hx hy
  refine eqF (T := 3) (off := 0) (by kernel_rfl) (by kernel_rfl) (by kernel_rfl) (run_part_plain w (by kernel_rfl) (v := .int .i64 s.p) (by simp [stA, stL])) (run_part_plain w (by kernel_rfl) (v := .int .i64 t.p) (by simp [stA, stL])) (run_equalIn_int w 9998 _ .i64 .i64 _ _ (by kernel_rfl)) ?_
  refine eqF (T := 3) (off := 1) (by kernel_rfl) (by kernel_rfl) (by kernel_rfl) (run_part_plain w (by kernel_rfl) (v := .int .i64 s.b) (by simp [stA, stL])) (run_part_plain w (by kernel_rfl) (v := .int .i64 t.b) (by simp [stA, stL])) (run_equalIn_int w 9998 _ .i64 .i64 _ _ (by kernel_rfl)) ?_
  refine eqF (T := 4) (off := 2) (by kernel_rfl) (by kernel_rfl) (by kernel_rfl) (run_part_plain w (by kernel_rfl) (v := .bool s.wi) (by simp [stA, stL])) (run_part_plain w (by kernel_rfl) (v := .bool t.wi) (by simp [stA, stL])) (run_equalIn_bool' w 9998 _ _ _ (by kernel_rfl)) ?_
  refine eqF (T := 22) (off := 3) (by kernel_rfl) (by kernel_rfl) (by kernel_rfl) (run_part_plain w (by kernel_rfl) (v := .int .u32 s.bo) (by simp [stA, stL])) (run_part_plain w (by kernel_rfl) (v := .int .u32 t.bo) (by simp [stA, stL])) (run_equalIn_int w 9998 _ .u32 .u32 _ _ (by kernel_rfl)) ?_
  refine eqF (T := 23) (off := 4) (by kernel_rfl) (by kernel_rfl) (by kernel_rfl) (run_part_plain w (by kernel_rfl) (v := .int .u64 s.ve) (by simp [stA, stL])) (run_part_plain w (by kernel_rfl) (v := .int .u64 t.ve) (by simp [stA, stL])) (run_equalIn_int w 9998 _ .u64 .u64 _ _ (by kernel_rfl)) ?_
  refine eqF (T := 22) (off := 5) (by kernel_rfl) (by kernel_rfl) (by kernel_rfl) (run_part_plain w (by kernel_rfl) (v := .int .u32 s.ep) (by simp [stA, stL])) (run_part_plain w (by kernel_rfl) (v := .int .u32 t.ep) (by simp [stA, stL])) (run_equalIn_int w 9998 _ .u32 .u32 _ _ (by kernel_rfl)) ?_
  refine eqF (T := 3) (off := 6) (by kernel_rfl) (by kernel_rfl) (by kernel_rfl) (run_part_plain w (by kernel_rfl) (v := .int .i64 s.cu) (by simp [stA, stL])) (run_part_plain w (by kernel_rfl) (v := .int .i64 t.cu) (by simp [stA, stL])) (run_equalIn_int w 9998 _ .i64 .i64 _ _ (by kernel_rfl)) ?_
  refine eqF (T := 4) (off := 7) (by kernel_rfl) (by kernel_rfl) (by kernel_rfl) (run_part_plain w (by kernel_rfl) (v := .bool s.bu) (by simp [stA, stL])) (run_part_plain w (by kernel_rfl) (v := .bool t.bu) (by simp [stA, stL])) (run_equalIn_bool' w 9998 _ _ _ (by kernel_rfl)) ?_
  refine eqF (T := 24) (off := 8) (by kernel_rfl) (by kernel_rfl) (by kernel_rfl) (hr s hs) (hr t ht) (hq _ _ hs.rl ht.rl) ?_
  refine eqF (T := 24) (off := 40) (by kernel_rfl) (by kernel_rfl) (by kernel_rfl) (hm s hs) (hm t ht) (hq _ _ hs.ml ht.ml) ?_
  simp [Op.eqFields]
end Go.Proofs.Ythlofbkbaabamaa
