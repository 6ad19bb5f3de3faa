/-
  sha's words: turned about; the contracts of turn and rotr.
-/
import Derived.Test.YtlekepigndlbhaaDoorTouch
import Derived.Test.YtlekepigndlbhaaDoorBytes
import Derived.Lib.Hide
import Derived.WalkKit
import Derived.IntWalk
namespace Go.Proofs.YtlekepigndlbhaaDoor
open Go.ChangeShapes Go.WideShapes Go.ChangeAt Go.RowKit

/-- A word turned to the right: a = 2 ^ n, b = 2 ^ (32 - n). -/
def rr (x a b : Int) : Int := bits .or .u32 (x / a) (x * b % 4294967296)
theorem or_swap (x y : Int) : bits .or .u32 x y = bits .or .u32 y x := by
  show IntKind.u32.wrap ((BitVec.ofInt 32 x ||| BitVec.ofInt 32 y).toNat : Int) = IntKind.u32.wrap ((BitVec.ofInt 32 y ||| BitVec.ofInt 32 x).toNat : Int)
  rw [BitVec.or_comm]
theorem rr_swap (x a b : Int) : bits .or .u32 (x * b % 4294967296) (x / a) = rr x a b := or_swap _ _

set_option maxRecDepth 100000 in
theorem rl_2 (x : Int) (w : World) :
    Calls Tryd.prog 42 #[.int .u32 x, .int .i64 (-2)] w fun e w' => e = .returned (.int .u32 (rr x 4 1073741824)) ∧ w' = w := by
  have hb : bits BinOp.and IntKind.u64 (IntKind.u64.wrap (-2)) 31 = 30 := by kernel_rfl
  go_enter Tryd.func42, Tryd.ntmps42
  go_wp2_with fail
  go_ret
  exact ⟨congrArg (fun y => Ending.returned (.int .u32 y)) (rr_swap x 4 1073741824), rfl⟩
set_option maxRecDepth 100000 in
theorem turn_2 (x : Int) (w : World) :
    Calls Tryd.prog 41 #[.int .u32 x, .int .i64 2] w fun e w' => e = .returned (.int .u32 (rr x 4 1073741824)) ∧ w' = w := by
  go_enter Tryd.func41, Tryd.ntmps41
  go_wp2_with fail
  refine (rl_2 x w).mono ?_
  rintro e w1 ⟨rfl, rfl⟩
  go_wp2_with fail
  go_ret
  exact ⟨rfl, rfl⟩
set_option maxRecDepth 100000 in
theorem rotr_2 (x : Int) (w : World) :
    Calls Tryd.prog 36 #[.int .u32 x, .int .u64 2] w fun e w' => e = .returned (.int .u32 (rr x 4 1073741824)) ∧ w' = w := by
  go_enter Tryd.func36, Tryd.ntmps36
  go_wp2_with fail
  go_ret
  exact ⟨rfl, rfl⟩

set_option maxRecDepth 100000 in
theorem rl_6 (x : Int) (w : World) :
    Calls Tryd.prog 42 #[.int .u32 x, .int .i64 (-6)] w fun e w' => e = .returned (.int .u32 (rr x 64 67108864)) ∧ w' = w := by
  have hb : bits BinOp.and IntKind.u64 (IntKind.u64.wrap (-6)) 31 = 26 := by kernel_rfl
  go_enter Tryd.func42, Tryd.ntmps42
  go_wp2_with fail
  go_ret
  exact ⟨congrArg (fun y => Ending.returned (.int .u32 y)) (rr_swap x 64 67108864), rfl⟩
set_option maxRecDepth 100000 in
theorem turn_6 (x : Int) (w : World) :
    Calls Tryd.prog 41 #[.int .u32 x, .int .i64 6] w fun e w' => e = .returned (.int .u32 (rr x 64 67108864)) ∧ w' = w := by
  go_enter Tryd.func41, Tryd.ntmps41
  go_wp2_with fail
  refine (rl_6 x w).mono ?_
  rintro e w1 ⟨rfl, rfl⟩
  go_wp2_with fail
  go_ret
  exact ⟨rfl, rfl⟩
set_option maxRecDepth 100000 in
theorem rotr_6 (x : Int) (w : World) :
    Calls Tryd.prog 36 #[.int .u32 x, .int .u64 6] w fun e w' => e = .returned (.int .u32 (rr x 64 67108864)) ∧ w' = w := by
  go_enter Tryd.func36, Tryd.ntmps36
  go_wp2_with fail
  go_ret
  exact ⟨rfl, rfl⟩

set_option maxRecDepth 100000 in
theorem rl_7 (x : Int) (w : World) :
    Calls Tryd.prog 42 #[.int .u32 x, .int .i64 (-7)] w fun e w' => e = .returned (.int .u32 (rr x 128 33554432)) ∧ w' = w := by
  have hb : bits BinOp.and IntKind.u64 (IntKind.u64.wrap (-7)) 31 = 25 := by kernel_rfl
  go_enter Tryd.func42, Tryd.ntmps42
  go_wp2_with fail
  go_ret
  exact ⟨congrArg (fun y => Ending.returned (.int .u32 y)) (rr_swap x 128 33554432), rfl⟩
set_option maxRecDepth 100000 in
theorem turn_7 (x : Int) (w : World) :
    Calls Tryd.prog 41 #[.int .u32 x, .int .i64 7] w fun e w' => e = .returned (.int .u32 (rr x 128 33554432)) ∧ w' = w := by
  go_enter Tryd.func41, Tryd.ntmps41
  go_wp2_with fail
  refine (rl_7 x w).mono ?_
  rintro e w1 ⟨rfl, rfl⟩
  go_wp2_with fail
  go_ret
  exact ⟨rfl, rfl⟩
set_option maxRecDepth 100000 in
theorem rotr_7 (x : Int) (w : World) :
    Calls Tryd.prog 36 #[.int .u32 x, .int .u64 7] w fun e w' => e = .returned (.int .u32 (rr x 128 33554432)) ∧ w' = w := by
  go_enter Tryd.func36, Tryd.ntmps36
  go_wp2_with fail
  go_ret
  exact ⟨rfl, rfl⟩

set_option maxRecDepth 100000 in
theorem rl_11 (x : Int) (w : World) :
    Calls Tryd.prog 42 #[.int .u32 x, .int .i64 (-11)] w fun e w' => e = .returned (.int .u32 (rr x 2048 2097152)) ∧ w' = w := by
  have hb : bits BinOp.and IntKind.u64 (IntKind.u64.wrap (-11)) 31 = 21 := by kernel_rfl
  go_enter Tryd.func42, Tryd.ntmps42
  go_wp2_with fail
  go_ret
  exact ⟨congrArg (fun y => Ending.returned (.int .u32 y)) (rr_swap x 2048 2097152), rfl⟩
set_option maxRecDepth 100000 in
theorem turn_11 (x : Int) (w : World) :
    Calls Tryd.prog 41 #[.int .u32 x, .int .i64 11] w fun e w' => e = .returned (.int .u32 (rr x 2048 2097152)) ∧ w' = w := by
  go_enter Tryd.func41, Tryd.ntmps41
  go_wp2_with fail
  refine (rl_11 x w).mono ?_
  rintro e w1 ⟨rfl, rfl⟩
  go_wp2_with fail
  go_ret
  exact ⟨rfl, rfl⟩
set_option maxRecDepth 100000 in
theorem rotr_11 (x : Int) (w : World) :
    Calls Tryd.prog 36 #[.int .u32 x, .int .u64 11] w fun e w' => e = .returned (.int .u32 (rr x 2048 2097152)) ∧ w' = w := by
  go_enter Tryd.func36, Tryd.ntmps36
  go_wp2_with fail
  go_ret
  exact ⟨rfl, rfl⟩

set_option maxRecDepth 100000 in
theorem rl_13 (x : Int) (w : World) :
    Calls Tryd.prog 42 #[.int .u32 x, .int .i64 (-13)] w fun e w' => e = .returned (.int .u32 (rr x 8192 524288)) ∧ w' = w := by
  have hb : bits BinOp.and IntKind.u64 (IntKind.u64.wrap (-13)) 31 = 19 := by kernel_rfl
  go_enter Tryd.func42, Tryd.ntmps42
  go_wp2_with fail
  go_ret
  exact ⟨congrArg (fun y => Ending.returned (.int .u32 y)) (rr_swap x 8192 524288), rfl⟩
set_option maxRecDepth 100000 in
theorem turn_13 (x : Int) (w : World) :
    Calls Tryd.prog 41 #[.int .u32 x, .int .i64 13] w fun e w' => e = .returned (.int .u32 (rr x 8192 524288)) ∧ w' = w := by
  go_enter Tryd.func41, Tryd.ntmps41
  go_wp2_with fail
  refine (rl_13 x w).mono ?_
  rintro e w1 ⟨rfl, rfl⟩
  go_wp2_with fail
  go_ret
  exact ⟨rfl, rfl⟩
set_option maxRecDepth 100000 in
theorem rotr_13 (x : Int) (w : World) :
    Calls Tryd.prog 36 #[.int .u32 x, .int .u64 13] w fun e w' => e = .returned (.int .u32 (rr x 8192 524288)) ∧ w' = w := by
  go_enter Tryd.func36, Tryd.ntmps36
  go_wp2_with fail
  go_ret
  exact ⟨rfl, rfl⟩

set_option maxRecDepth 100000 in
theorem rl_17 (x : Int) (w : World) :
    Calls Tryd.prog 42 #[.int .u32 x, .int .i64 (-17)] w fun e w' => e = .returned (.int .u32 (rr x 131072 32768)) ∧ w' = w := by
  have hb : bits BinOp.and IntKind.u64 (IntKind.u64.wrap (-17)) 31 = 15 := by kernel_rfl
  go_enter Tryd.func42, Tryd.ntmps42
  go_wp2_with fail
  go_ret
  exact ⟨congrArg (fun y => Ending.returned (.int .u32 y)) (rr_swap x 131072 32768), rfl⟩
set_option maxRecDepth 100000 in
theorem turn_17 (x : Int) (w : World) :
    Calls Tryd.prog 41 #[.int .u32 x, .int .i64 17] w fun e w' => e = .returned (.int .u32 (rr x 131072 32768)) ∧ w' = w := by
  go_enter Tryd.func41, Tryd.ntmps41
  go_wp2_with fail
  refine (rl_17 x w).mono ?_
  rintro e w1 ⟨rfl, rfl⟩
  go_wp2_with fail
  go_ret
  exact ⟨rfl, rfl⟩
set_option maxRecDepth 100000 in
theorem rotr_17 (x : Int) (w : World) :
    Calls Tryd.prog 36 #[.int .u32 x, .int .u64 17] w fun e w' => e = .returned (.int .u32 (rr x 131072 32768)) ∧ w' = w := by
  go_enter Tryd.func36, Tryd.ntmps36
  go_wp2_with fail
  go_ret
  exact ⟨rfl, rfl⟩

set_option maxRecDepth 100000 in
theorem rl_18 (x : Int) (w : World) :
    Calls Tryd.prog 42 #[.int .u32 x, .int .i64 (-18)] w fun e w' => e = .returned (.int .u32 (rr x 262144 16384)) ∧ w' = w := by
  have hb : bits BinOp.and IntKind.u64 (IntKind.u64.wrap (-18)) 31 = 14 := by kernel_rfl
  go_enter Tryd.func42, Tryd.ntmps42
  go_wp2_with fail
  go_ret
  exact ⟨congrArg (fun y => Ending.returned (.int .u32 y)) (rr_swap x 262144 16384), rfl⟩
set_option maxRecDepth 100000 in
theorem turn_18 (x : Int) (w : World) :
    Calls Tryd.prog 41 #[.int .u32 x, .int .i64 18] w fun e w' => e = .returned (.int .u32 (rr x 262144 16384)) ∧ w' = w := by
  go_enter Tryd.func41, Tryd.ntmps41
  go_wp2_with fail
  refine (rl_18 x w).mono ?_
  rintro e w1 ⟨rfl, rfl⟩
  go_wp2_with fail
  go_ret
  exact ⟨rfl, rfl⟩
set_option maxRecDepth 100000 in
theorem rotr_18 (x : Int) (w : World) :
    Calls Tryd.prog 36 #[.int .u32 x, .int .u64 18] w fun e w' => e = .returned (.int .u32 (rr x 262144 16384)) ∧ w' = w := by
  go_enter Tryd.func36, Tryd.ntmps36
  go_wp2_with fail
  go_ret
  exact ⟨rfl, rfl⟩

set_option maxRecDepth 100000 in
theorem rl_19 (x : Int) (w : World) :
    Calls Tryd.prog 42 #[.int .u32 x, .int .i64 (-19)] w fun e w' => e = .returned (.int .u32 (rr x 524288 8192)) ∧ w' = w := by
  have hb : bits BinOp.and IntKind.u64 (IntKind.u64.wrap (-19)) 31 = 13 := by kernel_rfl
  go_enter Tryd.func42, Tryd.ntmps42
  go_wp2_with fail
  go_ret
  exact ⟨congrArg (fun y => Ending.returned (.int .u32 y)) (rr_swap x 524288 8192), rfl⟩
set_option maxRecDepth 100000 in
theorem turn_19 (x : Int) (w : World) :
    Calls Tryd.prog 41 #[.int .u32 x, .int .i64 19] w fun e w' => e = .returned (.int .u32 (rr x 524288 8192)) ∧ w' = w := by
  go_enter Tryd.func41, Tryd.ntmps41
  go_wp2_with fail
  refine (rl_19 x w).mono ?_
  rintro e w1 ⟨rfl, rfl⟩
  go_wp2_with fail
  go_ret
  exact ⟨rfl, rfl⟩
set_option maxRecDepth 100000 in
theorem rotr_19 (x : Int) (w : World) :
    Calls Tryd.prog 36 #[.int .u32 x, .int .u64 19] w fun e w' => e = .returned (.int .u32 (rr x 524288 8192)) ∧ w' = w := by
  go_enter Tryd.func36, Tryd.ntmps36
  go_wp2_with fail
  go_ret
  exact ⟨rfl, rfl⟩

set_option maxRecDepth 100000 in
theorem rl_22 (x : Int) (w : World) :
    Calls Tryd.prog 42 #[.int .u32 x, .int .i64 (-22)] w fun e w' => e = .returned (.int .u32 (rr x 4194304 1024)) ∧ w' = w := by
  have hb : bits BinOp.and IntKind.u64 (IntKind.u64.wrap (-22)) 31 = 10 := by kernel_rfl
  go_enter Tryd.func42, Tryd.ntmps42
  go_wp2_with fail
  go_ret
  exact ⟨congrArg (fun y => Ending.returned (.int .u32 y)) (rr_swap x 4194304 1024), rfl⟩
set_option maxRecDepth 100000 in
theorem turn_22 (x : Int) (w : World) :
    Calls Tryd.prog 41 #[.int .u32 x, .int .i64 22] w fun e w' => e = .returned (.int .u32 (rr x 4194304 1024)) ∧ w' = w := by
  go_enter Tryd.func41, Tryd.ntmps41
  go_wp2_with fail
  refine (rl_22 x w).mono ?_
  rintro e w1 ⟨rfl, rfl⟩
  go_wp2_with fail
  go_ret
  exact ⟨rfl, rfl⟩
set_option maxRecDepth 100000 in
theorem rotr_22 (x : Int) (w : World) :
    Calls Tryd.prog 36 #[.int .u32 x, .int .u64 22] w fun e w' => e = .returned (.int .u32 (rr x 4194304 1024)) ∧ w' = w := by
  go_enter Tryd.func36, Tryd.ntmps36
  go_wp2_with fail
  go_ret
  exact ⟨rfl, rfl⟩

set_option maxRecDepth 100000 in
theorem rl_25 (x : Int) (w : World) :
    Calls Tryd.prog 42 #[.int .u32 x, .int .i64 (-25)] w fun e w' => e = .returned (.int .u32 (rr x 33554432 128)) ∧ w' = w := by
  have hb : bits BinOp.and IntKind.u64 (IntKind.u64.wrap (-25)) 31 = 7 := by kernel_rfl
  go_enter Tryd.func42, Tryd.ntmps42
  go_wp2_with fail
  go_ret
  exact ⟨congrArg (fun y => Ending.returned (.int .u32 y)) (rr_swap x 33554432 128), rfl⟩
set_option maxRecDepth 100000 in
theorem turn_25 (x : Int) (w : World) :
    Calls Tryd.prog 41 #[.int .u32 x, .int .i64 25] w fun e w' => e = .returned (.int .u32 (rr x 33554432 128)) ∧ w' = w := by
  go_enter Tryd.func41, Tryd.ntmps41
  go_wp2_with fail
  refine (rl_25 x w).mono ?_
  rintro e w1 ⟨rfl, rfl⟩
  go_wp2_with fail
  go_ret
  exact ⟨rfl, rfl⟩
set_option maxRecDepth 100000 in
theorem rotr_25 (x : Int) (w : World) :
    Calls Tryd.prog 36 #[.int .u32 x, .int .u64 25] w fun e w' => e = .returned (.int .u32 (rr x 33554432 128)) ∧ w' = w := by
  go_enter Tryd.func36, Tryd.ntmps36
  go_wp2_with fail
  go_ret
  exact ⟨rfl, rfl⟩
end Go.Proofs.YtlekepigndlbhaaDoor
