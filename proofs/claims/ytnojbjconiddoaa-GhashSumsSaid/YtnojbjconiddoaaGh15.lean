/-
  Whole blocks compared; the example of law07.
-/
import Derived.Test.YtnojbjconiddoaaGh14
import Derived.Test.YtnojbjconiddoaaArrEq
import Derived.Test.YtnojbjconiddoaaRun
namespace Go.Proofs.Ytnojbjconiddoaa
open Go.ChangeShapes Go.WideShapes Go.ChangeAt Go.RowKit

section
variable {o : Oper} {a : Act} {w : World}
theorem exec_eql_16 (xs ys : List Nat) (h1 : xs.length = 16) (h2 : ys.length = 16) (x y : Operand) (ho : o.op = .binOp .eql 22 x y 22) (hx : a.eval x = .agg (xs.map vb).toArray) (hy : a.eval y = .agg (ys.map vb).toArray) :
    (execOp a.eval o).run Try.prog w = .ok (.value (.bool (decide (xs = ys)))) w := by
  have he := run_equalIn_bytes' (P := Try.prog) w (t := 22) (e := 5) (n := 16) (i := (Try.prog.info? 5).get!) (k := .u8) 9998 (by kernel_rfl) (by kernel_rfl) (by kernel_rfl) (by kernel_rfl) (by kernel_rfl) xs ys h1 h2
  unfold execOp
  simp only [ho, hx, hy]
  simp [run_eqGuard_agg (P := Try.prog) w .eql 22 x y (xs.map vb).toArray (ys.map vb).toArray (by kernel_rfl), run_eql_struct, he]
theorem exec_neq_16 (xs ys : List Nat) (h1 : xs.length = 16) (h2 : ys.length = 16) (x y : Operand) (ho : o.op = .binOp .neq 22 x y 22) (hx : a.eval x = .agg (xs.map vb).toArray) (hy : a.eval y = .agg (ys.map vb).toArray) :
    (execOp a.eval o).run Try.prog w = .ok (.value (.bool (!decide (xs = ys)))) w := by
  have he := run_equalIn_bytes' (P := Try.prog) w (t := 22) (e := 5) (n := 16) (i := (Try.prog.info? 5).get!) (k := .u8) 9998 (by kernel_rfl) (by kernel_rfl) (by kernel_rfl) (by kernel_rfl) (by kernel_rfl) xs ys h1 h2
  unfold execOp
  simp only [ho, hx, hy]
  simp [run_eqGuard_agg (P := Try.prog) w .neq 22 x y (xs.map vb).toArray (ys.map vb).toArray (by kernel_rfl), run_neq_struct, he]
theorem exec_same_16 (xs : List Nat) (h1 : xs.length = 16) (x y : Operand) (ho : o.op = .binOp .eql 22 x y 22) (hx : a.eval x = .agg (xs.map vb).toArray) (hy : a.eval y = .agg (xs.map vb).toArray) :
    (execOp a.eval o).run Try.prog w = .ok (.value (.bool true)) w := by
  have h := exec_eql_16 (w := w) xs xs h1 h1 x y ho hx hy
  rw [decide_eq_true rfl] at h
  exact h
theorem exec_nsame_16 (xs : List Nat) (h1 : xs.length = 16) (x y : Operand) (ho : o.op = .binOp .neq 22 x y 22) (hx : a.eval x = .agg (xs.map vb).toArray) (hy : a.eval y = .agg (xs.map vb).toArray) :
    (execOp a.eval o).run Try.prog w = .ok (.value (.bool false)) w := by
  have h := exec_neq_16 (w := w) xs xs h1 h1 x y ho hx hy
  rw [decide_eq_true rfl] at h
  exact h
end
theorem gh_prod_is {xa xb D : List Nat} (hD : bytB (Gh.mul (polB xb) (polB xa)) = D) (hla : xa.length = 16) (hlb : xb.length = 16) (hxa : ∀ x ∈ xa, x < 256) (hxb : ∀ x ∈ xb, x < 256) (w : World) :
    Calls Try.prog 15 #[.agg (xa.map vb).toArray, .agg (xb.map vb).toArray] w fun e w' => e = .returned (.agg (D.map vb).toArray) ∧ Below w.heap.size w w' := by
  rw [← hD]
  exact gh_prod xa xb hla hlb hxa hxb w
theorem awk_prod : bytB (Gh.mul (polB [5, 0, 0, 0, 0, 0, 0, 0, 0, 0, 0, 0, 0, 0, 0, 7]) (polB [128, 0, 0, 0, 0, 0, 0, 0, 0, 0, 0, 0, 0, 0, 0, 0])) = [5, 0, 0, 0, 0, 0, 0, 0, 0, 0, 0, 0, 0, 0, 0, 7] := by kernel_rfl
theorem awk_sum : gsumB (polB [128, 0, 0, 0, 0, 0, 0, 0, 0, 0, 0, 0, 0, 0, 0, 0]) [9] [] = [9, 0, 0, 0, 0, 0, 0, 8, 0, 0, 0, 0, 0, 0, 0, 0] := by kernel_rfl
theorem bytes_new (w : World) (xs : List Nat) (hx : ∀ x ∈ xs, x < 256) (cs : Array Value) (hc : cs = (xs.map vb).toArray) : BytesIn (w.alloc (.cells cs 5)) (some ⟨w.heap.size, 0, none⟩) xs.length xs.length xs := by
  subst hc
  exact blk_bytes (Blk.made w 5 _) rfl hx

set_option maxRecDepth 100000 in
set_option maxHeartbeats 1000000 in
theorem awake7 (w : World) : Calls Try.prog 17 #[] w fun e w' => e = .returned (.bool true) ∧ Below w.heap.size w w' := by
  have HP := Lib.hid (gh_prod_is awk_prod rfl rfl (by decide) (by decide) w)
  have HN := Lib.hid (gh_new [128, 0, 0, 0, 0, 0, 0, 0, 0, 0, 0, 0, 0, 0, 0, 0] rfl (by decide))
  have HS := Lib.hid awk_sum
  have Hl := Lib.hid (polB_lt [128, 0, 0, 0, 0, 0, 0, 0, 0, 0, 0, 0, 0, 0, 0, 0])
  generalize polB [128, 0, 0, 0, 0, 0, 0, 0, 0, 0, 0, 0, 0, 0, 0, 0] = h at *
  go_enter Try.func17, Try.ntmps17
  go_wp2_with fail
  refine HP.out.mono ?_
  rintro e w1 ⟨rfl, hb1⟩
  have HNw := Lib.hid (HN.out w1)
  go_wp2_with (refine wpList_run _ rfl (exec_same_16 [5, 0, 0, 0, 0, 0, 0, 0, 0, 0, 0, 0, 0, 0, 0, 7] rfl (.tmp 3) (.tmp 4) rfl rfl rfl) ?_)
  refine HNw.out.mono ?_
  rintro e w2 ⟨g, rfl, _, hK, hb2⟩
  have hn2 := nu_trans hb1 hb2
  have hal := nu_alloc (nu_refl w2) (.cells #[.int .u8 9] 5)
  have HSum := Lib.hid (gh_sum_is HS.out (show KeyAt _ g h from Blk.below hK hal (Blk.lt hK)) Hl.out (bytes_new w2 [9] (by decide) #[.int .u8 9] rfl) (BytesIn.nil_ _) ⟨Nat.le_refl _, by decide⟩ ⟨Nat.le_refl _, by decide⟩)
  have Hal := Lib.hid hal
  clear hK hb2 hb1 hal HNw
  go_wp2_with fail
  refine HSum.out.mono ?_
  rintro e w3 ⟨rfl, hb3⟩
  have hn3 := nu_trans hn2 (nu_trans Hal.out hb3)
  go_wp2_with (refine wpList_run _ rfl (exec_same_16 [9, 0, 0, 0, 0, 0, 0, 8, 0, 0, 0, 0, 0, 0, 0, 0] rfl (.tmp 10) (.tmp 11) rfl rfl rfl) ?_)
  go_ret
  exact ⟨rfl, hn3⟩
end Go.Proofs.Ytnojbjconiddoaa
