/-
  What the proof of GcmTurned rests on, part 9 of 10.
-/
import Derived.Test.YtpeibkdcglkimaaGcmTurnedB8
namespace Aes
open Fld
abbrev kz : List Nat := [0, 0, 0, 0, 0, 0, 0, 0, 0, 0, 0, 0, 0, 0, 0, 0]
theorem kz_w : words kz 4 = [0, 0, 0, 0] := by decide +kernel
theorem kz_g0 : growT 4 40 [0, 0, 0, 0] = growT 4 36 [0, 0, 0, 0, 1650680675, 1650680675, 1650680675, 1650680675] := by kernel_rfl
theorem kz_g1 : growT 4 36 [0, 0, 0, 0, 1650680675, 1650680675, 1650680675, 1650680675] = growT 4 32 [0, 0, 0, 0, 1650680675, 1650680675, 1650680675, 1650680675, 2610469065, 4194040746, 2610469065, 4194040746] := by kernel_rfl
theorem kz_g2 : growT 4 32 [0, 0, 0, 0, 1650680675, 1650680675, 1650680675, 1650680675, 2610469065, 4194040746, 2610469065, 4194040746] = growT 4 28 [0, 0, 0, 0, 1650680675, 1650680675, 1650680675, 1650680675, 2610469065, 4194040746, 2610469065, 4194040746, 2425828432, 1768738810, 4076099379, 185576601] := by kernel_rfl
theorem kz_g3 : growT 4 28 [0, 0, 0, 0, 1650680675, 1650680675, 1650680675, 1650680675, 2610469065, 4194040746, 2610469065, 4194040746, 2425828432, 1768738810, 4076099379, 185576601] = growT 4 24 [0, 0, 0, 0, 1650680675, 1650680675, 1650680675, 1650680675, 2610469065, 4194040746, 2610469065, 4194040746, 2425828432, 1768738810, 4076099379, 185576601, 3993426555, 2271876481, 1973306034, 2123492907] := by kernel_rfl
theorem kz_g4 : growT 4 24 [0, 0, 0, 0, 1650680675, 1650680675, 1650680675, 1650680675, 2610469065, 4194040746, 2610469065, 4194040746, 2425828432, 1768738810, 4076099379, 185576601, 3993426555, 2271876481, 1973306034, 2123492907] = growT 4 20 [0, 0, 0, 0, 1650680675, 1650680675, 1650680675, 1650680675, 2610469065, 4194040746, 2610469065, 4194040746, 2425828432, 1768738810, 4076099379, 185576601, 3993426555, 2271876481, 1973306034, 2123492907, 2133732232, 4165221897, 2379906235, 4081816208] := by kernel_rfl
theorem kz_g5 : growT 4 20 [0, 0, 0, 0, 1650680675, 1650680675, 1650680675, 1650680675, 2610469065, 4194040746, 2610469065, 4194040746, 2425828432, 1768738810, 4076099379, 185576601, 3993426555, 2271876481, 1973306034, 2123492907, 2133732232, 4165221897, 2379906235, 4081816208] = growT 4 16 [0, 0, 0, 0, 1650680675, 1650680675, 1650680675, 1650680675, 2610469065, 4194040746, 2610469065, 4194040746, 2425828432, 1768738810, 4076099379, 185576601, 3993426555, 2271876481, 1973306034, 2123492907, 2133732232, 4165221897, 2379906235, 4081816208, 3965799301, 337999244, 2583628087, 1790221223] := by kernel_rfl
theorem kz_g6 : growT 4 16 [0, 0, 0, 0, 1650680675, 1650680675, 1650680675, 1650680675, 2610469065, 4194040746, 2610469065, 4194040746, 2425828432, 1768738810, 4076099379, 185576601, 3993426555, 2271876481, 1973306034, 2123492907, 2133732232, 4165221897, 2379906235, 4081816208, 3965799301, 337999244, 2583628087, 1790221223] = growT 4 12 [0, 0, 0, 0, 1650680675, 1650680675, 1650680675, 1650680675, 2610469065, 4194040746, 2610469065, 4194040746, 2425828432, 1768738810, 4076099379, 185576601, 3993426555, 2271876481, 1973306034, 2123492907, 2133732232, 4165221897, 2379906235, 4081816208, 3965799301, 337999244, 2583628087, 1790221223, 561321863, 894460427, 2897177404, 3323719835] := by kernel_rfl
theorem kz_g7 : growT 4 12 [0, 0, 0, 0, 1650680675, 1650680675, 1650680675, 1650680675, 2610469065, 4194040746, 2610469065, 4194040746, 2425828432, 1768738810, 4076099379, 185576601, 3993426555, 2271876481, 1973306034, 2123492907, 2133732232, 4165221897, 2379906235, 4081816208, 3965799301, 337999244, 2583628087, 1790221223, 561321863, 894460427, 2897177404, 3323719835] = growT 4 8 [0, 0, 0, 0, 1650680675, 1650680675, 1650680675, 1650680675, 2610469065, 4194040746, 2610469065, 4194040746, 2425828432, 1768738810, 4076099379, 185576601, 3993426555, 2271876481, 1973306034, 2123492907, 2133732232, 4165221897, 2379906235, 4081816208, 3965799301, 337999244, 2583628087, 1790221223, 561321863, 894460427, 2897177404, 3323719835, 251200307, 1000956216, 2533755396, 1360919199] := by kernel_rfl
theorem kz_g8 : growT 4 8 [0, 0, 0, 0, 1650680675, 1650680675, 1650680675, 1650680675, 2610469065, 4194040746, 2610469065, 4194040746, 2425828432, 1768738810, 4076099379, 185576601, 3993426555, 2271876481, 1973306034, 2123492907, 2133732232, 4165221897, 2379906235, 4081816208, 3965799301, 337999244, 2583628087, 1790221223, 561321863, 894460427, 2897177404, 3323719835, 251200307, 1000956216, 2533755396, 1360919199] = growT 4 4 [0, 0, 0, 0, 1650680675, 1650680675, 1650680675, 1650680675, 2610469065, 4194040746, 2610469065, 4194040746, 2425828432, 1768738810, 4076099379, 185576601, 3993426555, 2271876481, 1973306034, 2123492907, 2133732232, 4165221897, 2379906235, 4081816208, 3965799301, 337999244, 2583628087, 1790221223, 561321863, 894460427, 2897177404, 3323719835, 251200307, 1000956216, 2533755396, 1360919199, 2983516386, 2323495386, 494646238, 1281771841] := by kernel_rfl
theorem kz_g9 : growT 4 4 [0, 0, 0, 0, 1650680675, 1650680675, 1650680675, 1650680675, 2610469065, 4194040746, 2610469065, 4194040746, 2425828432, 1768738810, 4076099379, 185576601, 3993426555, 2271876481, 1973306034, 2123492907, 2133732232, 4165221897, 2379906235, 4081816208, 3965799301, 337999244, 2583628087, 1790221223, 561321863, 894460427, 2897177404, 3323719835, 251200307, 1000956216, 2533755396, 1360919199, 2983516386, 2323495386, 494646238, 1281771841] = growT 4 0 [0, 0, 0, 0, 1650680675, 1650680675, 1650680675, 1650680675, 2610469065, 4194040746, 2610469065, 4194040746, 2425828432, 1768738810, 4076099379, 185576601, 3993426555, 2271876481, 1973306034, 2123492907, 2133732232, 4165221897, 2379906235, 4081816208, 3965799301, 337999244, 2583628087, 1790221223, 561321863, 894460427, 2897177404, 3323719835, 251200307, 1000956216, 2533755396, 1360919199, 2983516386, 2323495386, 494646238, 1281771841, 3035585483, 1049813521, 602493391, 1871648910] := by kernel_rfl
abbrev kz_W : List Nat := [0, 0, 0, 0, 1650680675, 1650680675, 1650680675, 1650680675, 2610469065, 4194040746, 2610469065, 4194040746, 2425828432, 1768738810, 4076099379, 185576601, 3993426555, 2271876481, 1973306034, 2123492907, 2133732232, 4165221897, 2379906235, 4081816208, 3965799301, 337999244, 2583628087, 1790221223, 561321863, 894460427, 2897177404, 3323719835, 251200307, 1000956216, 2533755396, 1360919199, 2983516386, 2323495386, 494646238, 1281771841, 3035585483, 1049813521, 602493391, 1871648910]
theorem kz_expand : expand kz = kz_W := by
  show grow 4 40 (words kz 4) = _
  rw [grow_tab, kz_w, kz_g0, kz_g1, kz_g2, kz_g3, kz_g4, kz_g5, kz_g6, kz_g7, kz_g8, kz_g9]
  rfl
abbrev z0_st : List Nat := [0, 0, 0, 0, 0, 0, 0, 0, 0, 0, 0, 0, 0, 0, 0, 0]
theorem z0_ok : St16 z0_st := ⟨rfl, by decide⟩
theorem z0_e0 : encF kz_W 0 z0_st = [0, 0, 0, 0, 0, 0, 0, 0, 0, 0, 0, 0, 0, 0, 0, 0] := by kernel_rfl
theorem z0_e1 : encF kz_W 1 z0_st = [1, 0, 0, 0, 1, 0, 0, 0, 1, 0, 0, 0, 1, 0, 0, 0] := by
  rw [encF_tab z0_ok, z0_e0]
  kernel_rfl
theorem z0_e2 : encF kz_W 2 z0_st = [198, 228, 228, 139, 164, 135, 135, 232, 198, 228, 228, 139, 164, 135, 135, 232] := by
  rw [encF_tab z0_ok, z0_e1]
  kernel_rfl
theorem z0_e3 : encF kz_W 3 z0_st = [40, 45, 243, 196, 106, 243, 134, 37, 74, 78, 144, 167, 8, 144, 229, 70] := by
  rw [encF_tab z0_ok, z0_e2]
  kernel_rfl
theorem z0_e4 : encF kz_W 4 z0_st = [171, 210, 205, 254, 55, 90, 181, 73, 80, 160, 175, 192, 117, 154, 106, 95] := by
  rw [encF_tab z0_ok, z0_e3]
  kernel_rfl
theorem z0_e5 : encF kz_W 5 z0_st = [212, 111, 79, 108, 85, 184, 150, 51, 126, 5, 187, 61, 121, 121, 222, 35] := by
  rw [encF_tab z0_ok, z0_e4]
  kernel_rfl
theorem z0_e6 : encF kz_W 6 z0_st = [4, 242, 202, 151, 7, 120, 40, 69, 226, 47, 1, 150, 73, 197, 215, 16] := by
  rw [encF_tab z0_ok, z0_e5]
  kernel_rfl
theorem z0_e7 : encF kz_W 7 z0_st = [183, 170, 228, 197, 29, 37, 45, 79, 108, 146, 15, 129, 148, 229, 129, 80] := by
  rw [encF_tab z0_ok, z0_e6]
  kernel_rfl
theorem z0_e8 : encF kz_W 8 z0_st = [35, 231, 140, 60, 19, 33, 99, 219, 170, 192, 198, 87, 46, 3, 203, 149] := by
  rw [encF_tab z0_ok, z0_e7]
  kernel_rfl
theorem z0_e9 : encF kz_W 9 z0_st = [127, 254, 14, 149, 81, 165, 102, 53, 14, 52, 124, 71, 41, 41, 236, 203] := by
  rw [encF_tab z0_ok, z0_e8]
  kernel_rfl
abbrev z0_out : List Nat := [102, 233, 75, 212, 239, 138, 44, 59, 136, 76, 250, 89, 202, 52, 43, 46]
theorem z0_enc : enc kz_W 10 z0_st = z0_out := by
  rw [enc_tab z0_ok, z0_e9]
  kernel_rfl
abbrev z1_st : List Nat := [0, 0, 0, 0, 0, 0, 0, 0, 0, 0, 0, 0, 0, 0, 0, 1]
theorem z1_ok : St16 z1_st := ⟨rfl, by decide⟩
theorem z1_e0 : encF kz_W 0 z1_st = [0, 0, 0, 0, 0, 0, 0, 0, 0, 0, 0, 0, 0, 0, 0, 1] := by kernel_rfl
theorem z1_e1 : encF kz_W 1 z1_st = [30, 31, 33, 62, 1, 0, 0, 0, 1, 0, 0, 0, 1, 0, 0, 0] := by
  rw [encF_tab z1_ok, z1_e0]
  kernel_rfl
theorem z1_e2 : encF kz_W 2 z1_st = [218, 234, 234, 153, 117, 86, 239, 81, 88, 93, 195, 21, 90, 218, 36, 75] := by
  rw [encF_tab z1_ok, z1_e1]
  kernel_rfl
theorem z1_e3 : encF kz_W 3 z1_st = [107, 120, 64, 75, 68, 221, 91, 251, 137, 115, 23, 228, 120, 135, 219, 170] := by
  rw [encF_tab z1_ok, z1_e2]
  kernel_rfl
theorem z1_e4 : encF kz_W 4 z1_st = [20, 71, 112, 136, 49, 23, 38, 231, 31, 3, 241, 64, 146, 108, 39, 163] := by
  rw [encF_tab z1_ok, z1_e3]
  kernel_rfl
theorem z1_e5 : encF kz_W 5 z1_st = [48, 221, 102, 216, 232, 254, 86, 127, 35, 221, 233, 210, 104, 84, 147, 4] := by
  rw [encF_tab z1_ok, z1_e4]
  kernel_rfl
theorem z1_e6 : encF kz_W 6 z1_st = [222, 216, 197, 211, 220, 57, 47, 229, 84, 30, 4, 241, 188, 21, 162, 105] := by
  rw [encF_tab z1_ok, z1_e5]
  kernel_rfl
theorem z1_e7 : encF kz_W 7 z1_st = [38, 184, 247, 169, 232, 26, 72, 30, 120, 21, 53, 10, 27, 34, 38, 25] := by
  rw [encF_tab z1_ok, z1_e6]
  kernel_rfl
theorem z1_e8 : encF kz_W 8 z1_st = [68, 36, 6, 182, 217, 81, 56, 157, 64, 77, 99, 196, 149, 251, 52, 133] := by
  rw [encF_tab z1_ok, z1_e7]
  kernel_rfl
theorem z1_e9 : encF kz_W 9 z1_st = [131, 247, 93, 208, 136, 243, 141, 226, 47, 131, 137, 25, 89, 53, 127, 54] := by
  rw [encF_tab z1_ok, z1_e8]
  kernel_rfl
abbrev z1_out : List Nat := [88, 226, 252, 206, 250, 126, 48, 97, 54, 127, 29, 87, 164, 231, 69, 90]
theorem z1_enc : enc kz_W 10 z1_st = z1_out := by
  rw [enc_tab z1_ok, z1_e9]
  kernel_rfl
abbrev z2_st : List Nat := [0, 0, 0, 0, 0, 0, 0, 0, 0, 0, 0, 0, 0, 0, 0, 2]
theorem z2_ok : St16 z2_st := ⟨rfl, by decide⟩
theorem z2_e0 : encF kz_W 0 z2_st = [0, 0, 0, 0, 0, 0, 0, 0, 0, 0, 0, 0, 0, 0, 0, 2] := by kernel_rfl
theorem z2_e1 : encF kz_W 1 z2_st = [21, 20, 60, 40, 1, 0, 0, 0, 1, 0, 0, 0, 1, 0, 0, 0] := by
  rw [encF_tab z2_ok, z2_e0]
  kernel_rfl
theorem z2_e2 : encF kz_W 2 z2_st = [140, 193, 193, 228, 243, 208, 126, 70, 78, 103, 239, 3, 20, 174, 30, 113] := by
  rw [encF_tab z2_ok, z2_e1]
  kernel_rfl
theorem z2_e3 : encF kz_W 3 z2_st = [180, 202, 123, 14, 252, 143, 24, 200, 185, 218, 130, 106, 228, 112, 94, 241] := by
  rw [encF_tab z2_ok, z2_e2]
  kernel_rfl
theorem z2_e4 : encF kz_W 4 z2_st = [200, 249, 250, 206, 246, 55, 164, 8, 227, 225, 36, 243, 159, 254, 180, 77] := by
  rw [encF_tab z2_ok, z2_e3]
  kernel_rfl
theorem z2_e5 : encF kz_W 5 z2_st = [212, 80, 11, 218, 105, 234, 3, 183, 100, 225, 220, 126, 170, 111, 85, 44] := by
  rw [encF_tab z2_ok, z2_e4]
  kernel_rfl
theorem z2_e6 : encF kz_W 6 z2_st = [25, 220, 0, 190, 69, 127, 110, 54, 126, 35, 84, 56, 84, 192, 156, 157] := by
  rw [encF_tab z2_ok, z2_e5]
  kernel_rfl
theorem z2_e7 : encF kz_W 7 z2_st = [129, 32, 179, 174, 243, 165, 100, 6, 226, 147, 235, 225, 143, 145, 122, 236] := by
  rw [encF_tab z2_ok, z2_e6]
  kernel_rfl
theorem z2_e8 : encF kz_W 8 z2_st = [59, 23, 137, 79, 96, 150, 40, 250, 38, 95, 120, 133, 206, 38, 171, 21] := by
  rw [encF_tab z2_ok, z2_e7]
  kernel_rfl
theorem z2_e9 : encF kz_W 9 z2_st = [32, 139, 34, 65, 157, 10, 245, 15, 96, 166, 145, 214, 233, 221, 248, 54] := by
  rw [encF_tab z2_ok, z2_e8]
  kernel_rfl
abbrev z2_out : List Nat := [3, 136, 218, 206, 96, 182, 163, 146, 243, 40, 194, 185, 113, 178, 254, 120]
theorem z2_enc : enc kz_W 10 z2_st = z2_out := by
  rw [enc_tab z2_ok, z2_e9]
  kernel_rfl
end Aes
namespace Go.Proofs.Ytpeibkdcglkimaa
open Go.ChangeShapes Go.WideShapes Go.ChangeAt Go.RowKit Fld Aes Gcm
abbrev z12n : List Nat := [0, 0, 0, 0, 0, 0, 0, 0, 0, 0, 0, 0]
theorem z12n_lt : ∀ x ∈ z12n, x < 256 := by decide
theorem kz_lt : ∀ x ∈ kz, x < 256 := by decide
theorem kz_keyed : Keyed kz_W 10 := by rw [← kz_expand]; exact keyed_of kz_lt (.inl rfl)
theorem kz_hash : enc kz_W 10 z16n = kn_h := z0_enc
theorem kz_ctr1 : ctr kz_W 10 z12n 1 = z1_out := z1_enc
theorem kz_ctr2 : ctr kz_W 10 z12n 2 = z2_out := z2_enc
theorem kz_seal0 : sealL kz_W 10 z12n (polB kn_h) [] [] = z1_out := by
  show [] ++ tagL kz_W 10 z12n (polB kn_h) [] [] = _
  rw [List.nil_append, tagL, kz_ctr1, kn_nilsum]
  kernel_rfl
theorem turned_one (W : List Nat) (R : Nat) (nonce p : List Nat) (h : p.length = 16) : turned W R nonce p = xorL p (ctr W R nonce 2) := by
  have hc := (ctr_st W R nonce 2).1
  apply List.ext_getElem?
  intro i
  by_cases hi : i < 16
  · have hp : p[i]? = some (p.getD i 0) := by rw [List.getD_eq_getElem?_getD, List.getElem?_eq_getElem (by omega)]; rfl
    have hq : (ctr W R nonce 2)[i]? = some ((ctr W R nonce 2).getD i 0) := by rw [List.getD_eq_getElem?_getD, List.getElem?_eq_getElem (by omega)]; rfl
    rw [turned_at W R nonce p i (by omega), xorL_at hp hq, show i / 16 = 0 by omega, show i % 16 = i by omega]
  · rw [List.getElem?_eq_none (by rw [turned_len]; omega), List.getElem?_eq_none (by rw [xorL_len _ _ (by omega)]; omega)]
theorem kz_turn : turned kz_W 10 z12n kz = kn_c := by
  rw [turned_one _ _ _ _ rfl, kz_ctr2]
  kernel_rfl
abbrev kz_tag : List Nat := [171, 110, 71, 212, 44, 236, 19, 189, 245, 58, 103, 178, 18, 87, 189, 223]
theorem kz_seal16 : sealL kz_W 10 z12n (polB kn_h) [] kz = kn_c ++ kz_tag := by
  rw [sealL, kz_turn, tagL, kz_ctr1, kn_sum]
  kernel_rfl
end Go.Proofs.Ytpeibkdcglkimaa

namespace Go.Proofs.Ytpeibkdcglkimaa
open Go.ChangeShapes Go.WideShapes Go.ChangeAt Go.RowKit Fld Aes Gcm
set_option linter.unusedSimpArgs false

theorem exec_z12 {o : Oper} {a : Act} {w : World} (ho : o.op = .build 23 #[]) : (execOp a.eval o).run Try.prog w = .ok (.value (.agg (z12n.map vb).toArray)) w := by
  unfold execOp
  simp only [ho]
  kernel_rfl
theorem min2_15 (l : Nat) : ∃ n : Nat, n ≤ l ∧ n ≤ 15 ∧ ∀ (W : World) (ts : Array TypeId) (t : TypeId), (Builtin.min_ ts t #[.int .i64 (l : Int), .int .i64 15]).run Try.prog W = .ok (.int .i64 (n : Int)) W := by
  by_cases h1 : (15 : Int) < (l : Int)
  · exact ⟨15, by omega, by omega, fun W ts t => by simp [Builtin.min_, Builtin.min2, h1]⟩
  · exact ⟨l, by omega, by omega, fun W ts t => by simp [Builtin.min_, Builtin.min2, h1]⟩
theorem kzBox {w w' : World} {X : Nat} (h : GBox w' X (expand kz) (kz.length / 4 + 6) (polB (enc (expand kz) (kz.length / 4 + 6) z16n))) : GBox w' X kz_W 10 (polB kn_h) := by
  rw [kz_expand] at h
  rw [← kz_hash]
  exact h
set_option maxRecDepth 100000 in
set_option maxHeartbeats 2000000 in
theorem great_any (a t : Option Addr) (la ca lt ct : Nat) (w : World) (v : Bool) (hv : decide (1000 < la ∨ 1000 < lt) = v) :
    Calls Try.prog 12 #[.slice a la ca, .slice t lt ct] w fun e w' => e = .returned (.bool v) ∧ w = w' := by
  by_cases h1 : 1000 < la
  · have i1 : (1000 : Int) < (la : Int) := by omega
    have hve : v = true := by rw [← hv]; simp [h1]
    subst hve
    go_enter Try.func12, Try.ntmps12
    go_wp2_with fail
    go_ret
    exact ⟨rfl, rfl⟩
  · have i1 : ¬ (1000 : Int) < (la : Int) := by omega
    by_cases h2 : 1000 < lt
    · have i2 : (1000 : Int) < (lt : Int) := by omega
      have hve : v = true := by rw [← hv]; simp [h2]
      subst hve
      go_enter Try.func12, Try.ntmps12
      go_wp2_with fail
      go_ret
      exact ⟨rfl, rfl⟩
    · have i2 : ¬ (1000 : Int) < (lt : Int) := by omega
      have hve : v = false := by rw [← hv]; simp [h1, h2]
      subst hve
      go_enter Try.func12, Try.ntmps12
      go_wp2_with fail
      go_ret
      exact ⟨rfl, rfl⟩
set_option maxRecDepth 100000 in
set_option maxHeartbeats 4000000 in
theorem awake8 (w : World) : Calls Try.prog 11 #[] w fun e w' => e = .returned (.bool true) ∧ Below w.heap.size w w' := by
  have hmk : ∀ W : World, (Instr.makeSlice 22 (.int .i64 16) (.int .i64 16)).run Try.prog W = .ok (.slice (some ⟨W.heap.size, 0, none⟩) 16 16) (W.alloc (.cells (kz.map vb).toArray 5)) := fun W => mk_zeros 16 (by omega) W
  have hal := nu_alloc (nu_refl w) (.cells (kz.map vb).toArray 5)
  have HK := Lib.hid (show BytesIn (w.alloc (.cells (kz.map vb).toArray 5)) (some ⟨w.heap.size, 0, none⟩) 16 16 kz from blk_bytes (Blk.made w 5 (kz.map vb).toArray) rfl kz_lt)
  have HN := Lib.hid (gcmNew_any (.inl rfl) HK.out)
  have Hal := Lib.hid hal
  clear hal HK
  go_enter Try.func11, Try.ntmps11
  go_wp2_with fail
  refine HN.out.mono ?_
  rintro e w2 ⟨X, rfl, hG, hb2, _⟩
  have HG := Lib.hid (kzBox (w := w) hG)
  have hn2 := nu_trans Hal.out hb2
  clear hG hb2 HN Hal
  clear hmk
  have HS := Lib.hid (seal_any HG.out kz_keyed (polB_lt kn_h) z12n rfl z12n_lt none 0 0 [] (BytesIn.nil_ _) (by omega) ⟨by omega, by unfold maxLen; omega⟩ none 0 0 [] (BytesIn.nil_ _) (by omega))
  have hn3 := hn2
  clear hn2
  go_wp2_with (refine wpList_run _ (by rfl) (exec_z12 rfl) ?_)
  refine HS.out.mono ?_
  rintro e w5 ⟨v, rfl, hO, hb5⟩
  have hn5 := nu_trans hn3 hb5
  rw [kz_seal0] at hO
  obtain ⟨k, cap, cur, hv, hkB, hB, hlc, hcm, hcs, htk⟩ := hO.form (by decide)
  rw [show (z1_out).length = 16 from rfl] at hv hlc htk
  subst hv
  have HB5 := Lib.hid hB
  have HT5 := Lib.hid htk
  have c0 : w5.cell? ⟨k, 0, none⟩ = some (.int .u8 88) := HB5.out.at 0 _ (own_cell HT5.out rfl)
  have c15 : w5.cell? ⟨k, 15, none⟩ = some (.int .u8 90) := HB5.out.at 15 _ (own_cell HT5.out rfl)
  clear hO hB htk hkB hcs hb5 hn3 HS HG
  go_wp2_with fail
  go_ret
  exact ⟨rfl, hn5⟩
set_option maxRecDepth 100000 in
set_option maxHeartbeats 4000000 in
theorem gcmKnown_walk (w : World) : Calls Try.prog 4 #[] w fun e w' => e = .returned (.bool true) ∧ Below w.heap.size w w' := by
  have hmk : ∀ W : World, (Instr.makeSlice 22 (.int .i64 16) (.int .i64 16)).run Try.prog W = .ok (.slice (some ⟨W.heap.size, 0, none⟩) 16 16) (W.alloc (.cells (kz.map vb).toArray 5)) := fun W => mk_zeros 16 (by omega) W
  have hal := nu_alloc (nu_refl w) (.cells (kz.map vb).toArray 5)
  have HK := Lib.hid (show BytesIn (w.alloc (.cells (kz.map vb).toArray 5)) (some ⟨w.heap.size, 0, none⟩) 16 16 kz from blk_bytes (Blk.made w 5 (kz.map vb).toArray) rfl kz_lt)
  have HN := Lib.hid (gcmNew_any (.inl rfl) HK.out)
  have Hal := Lib.hid hal
  clear hal HK
  go_enter Try.func4, Try.ntmps4
  go_wp2_with fail
  refine HN.out.mono ?_
  rintro e w2 ⟨X, rfl, hG, hb2, _⟩
  have HG := Lib.hid (kzBox (w := w) hG)
  have hn2 := nu_trans Hal.out hb2
  clear hG hb2 HN Hal
  have hal := nu_alloc (nu_refl w2) (.cells (kz.map vb).toArray 5)
  have HS := Lib.hid (seal_any (HG.out.below hal) kz_keyed (polB_lt kn_h) z12n rfl z12n_lt none 0 0 [] (BytesIn.nil_ _) (by omega) ⟨by omega, by unfold maxLen; omega⟩ (some ⟨w2.heap.size, 0, none⟩) 16 16 kz (blk_bytes (Blk.made w2 5 (kz.map vb).toArray) rfl kz_lt) (by omega))
  have hn3 := nu_trans hn2 hal
  clear hal hn2
  go_wp2_with (refine wpList_run _ (by rfl) (exec_z12 rfl) ?_)
  refine HS.out.mono ?_
  rintro e w5 ⟨v, rfl, hO, hb5⟩
  have hn5 := nu_trans hn3 hb5
  rw [kz_seal16] at hO
  obtain ⟨k, cap, cur, hv, hkB, hB, hlc, hcm, hcs, htk⟩ := hO.form (by decide)
  rw [show (kn_c ++ kz_tag).length = 32 from rfl] at hv hlc htk
  subst hv
  have HB5 := Lib.hid hB
  have HT5 := Lib.hid htk
  have c0 : w5.cell? ⟨k, 0, none⟩ = some (.int .u8 3) := HB5.out.at 0 _ (own_cell HT5.out rfl)
  have c1 : w5.cell? ⟨k, 1, none⟩ = some (.int .u8 136) := HB5.out.at 1 _ (own_cell HT5.out rfl)
  have c16 : w5.cell? ⟨k, 16, none⟩ = some (.int .u8 171) := HB5.out.at 16 _ (own_cell HT5.out rfl)
  have c31 : w5.cell? ⟨k, 31, none⟩ = some (.int .u8 223) := HB5.out.at 31 _ (own_cell HT5.out rfl)
  clear hO hB htk hkB hcs hb5 hn3 HS HG
  go_wp2_with fail
  refine (awake8 w5).mono ?_
  rintro e w6 ⟨rfl, hb6⟩
  have hn6 := nu_trans hn5 hb6
  go_wp2_with fail
  go_ret
  exact ⟨rfl, hn6⟩
set_option maxRecDepth 100000 in
set_option maxHeartbeats 4000000 in
theorem gcmShort_walk (a : Option Addr) (len cap : Nat) (key : List Nat) (nonce : List Nat) (h12 : nonce.length = 12) (hx12 : ∀ x ∈ nonce, x < 256) (a1 a2 : Option Addr) (la ca lt ct : Nat) (w : World) (hx : BytesIn w a len cap key) (hlc : lt ≤ ct) (hcm : ct ≤ 9223372036854775807) :
    Calls Try.prog 8 #[.slice a len cap, .agg (nonce.map vb).toArray, .slice a1 la ca, .slice a2 lt ct] w fun e w' => e = .returned (.bool true) ∧ Below w.heap.size w w' := by
  have hal := nu_alloc (nu_refl w) (.cells (nonce.map vb).toArray 23)
  have HP := Lib.hid (Blk.made w 23 (nonce.map vb).toArray)
  have H12 := Lib.hid h12
  have HX := Lib.hid (hx.keep hal)
  have Hal := Lib.hid hal
  obtain ⟨m, hml, hm15, hmin⟩ := min2_15 lt
  clear h12 hx12 hx hal
  go_enter Try.func8, Try.ntmps8
  go_upto_region 1 with fail
  generalize w.alloc (.cells (nonce.map vb).toArray 23) = w1 at *
  obtain ⟨P, hP⟩ : ∃ P, P = w.heap.size := ⟨_, rfl⟩
  rw [← hP] at HP
  rw [← hP]
  clear hP
  go_wp2_with (refine wpList_run _ (by rfl) (e12_load HP.out H12.out (.tmp 5) rfl rfl) ?_)
  refine (open_nil _ a1 a2 la ca lt ct w1 (nonce.map vb).toArray rfl).mono ?_
  rintro e w2 ⟨rfl, hb2⟩
  have HP2 := Lib.hid (HP.out.below hb2 HP.out.lt)
  have HX2 := Lib.hid (HX.out.keep hb2)
  have Hn2 := Lib.hid (nu_trans Hal.out hb2)
  clear hb2 HP HX Hal
  go_wp2_with (refine wpList_run _ (by rfl) (e12_load HP2.out H12.out (.tmp 5) rfl rfl) ?_)
  refine (seal_nil _ a1 a2 la ca lt ct w2 (nonce.map vb).toArray rfl).mono ?_
  rintro e w2' ⟨rfl, hb2⟩
  have HP3 := Lib.hid (HP2.out.below hb2 HP2.out.lt)
  have HX3 := Lib.hid (HX2.out.keep hb2)
  have Hn3 := Lib.hid (nu_trans Hn2.out hb2)
  clear hb2 HP2 HX2 Hn2
  by_cases hL : len = 16 ∨ len = 32
  · have HNw := Lib.hid (gcmNew_any hL HX3.out)
    clear hL
    go_wp2_with fail
    refine HNw.out.mono ?_
    rintro e w3 ⟨X, rfl, _, hb3, _⟩
    have HP4 := Lib.hid (HP3.out.below hb3 HP3.out.lt)
    have Hn4 := Lib.hid (nu_trans Hn3.out hb3)
    clear hb3 HP3 HX3 Hn3 HNw
    have HP3 := HP4
    have Hn3 := Hn4
    clear HP4 Hn4
    have hmc : m ≤ ct := by omega
    have hml2 : m ≤ lt := hml
    go_upto_region 8 with fail
    refine wp_region_held_drew (S := fun W => Below w3.heap.size w3 W) (by kernel_rfl) (nu_drew (nu_refl w3)) (fun hHeld => ?_)
    dsimp only [Array.replicate, List.replicate, List.size_toArray, List.length_cons, List.length_nil, Nat.reduceAdd] at hHeld ⊢
    have HB0 := Lib.hid hHeld
    generalize w3.drew = u0 at *
    refine take_l (i := 0) (v := ?_) rfl (by kernel_rfl) (by kernel_rfl) (by kernel_rfl) (fun _ _ _ h => h) (Or.inl ⟨by rfl, ?_⟩) (by assumption) ?_
    case refine_2 => (intro _ _; go_simp; all_goals with_reducible rfl)
    simp only [Act.put, List.setIfInBounds_toArray, List.set_cons_zero, List.set_cons_succ]
    refine take_l (i := 1) rfl (by kernel_rfl) (by kernel_rfl) (by kernel_rfl) (fun _ _ _ h => h) (Or.inl ⟨by rfl, fun W hS => e12_load (Blk.below HP3.out hS HP3.out.lt) H12.out (.tmp 5) rfl rfl⟩) (by assumption) ?_
    simp only [Act.put, List.setIfInBounds_toArray, List.set_cons_zero, List.set_cons_succ]
    refine take_l (i := 2) (v := ?_) rfl (by kernel_rfl) (by kernel_rfl) (by kernel_rfl) (fun _ _ _ h => h) (Or.inl ⟨by rfl, ?_⟩) (by assumption) ?_
    case refine_2 => (intro _ _; go_simp; all_goals with_reducible rfl)
    simp only [Act.put, List.setIfInBounds_toArray, List.set_cons_zero, List.set_cons_succ]
    refine take_l (i := 3) (v := ?_) rfl (by kernel_rfl) (by kernel_rfl) (by kernel_rfl) (fun _ _ _ h => h) (Or.inl ⟨by rfl, ?_⟩) (by assumption) ?_
    case refine_2 => (intro _ _; go_simp; all_goals with_reducible rfl)
    simp only [Act.put, List.setIfInBounds_toArray, List.set_cons_zero, List.set_cons_succ]
    refine take_l (i := 4) (v := ?_) rfl (by kernel_rfl) (by kernel_rfl) (by kernel_rfl) (fun _ _ _ h => h) (Or.inl ⟨by rfl, ?_⟩) (by assumption) ?_
    case refine_2 => (intro _ _; go_simp; all_goals with_reducible rfl)
    simp only [Act.put, List.setIfInBounds_toArray, List.set_cons_zero, List.set_cons_succ]
    clear hHeld
    refine wpAnyH_ready (rs := [5]) (by kernel_rfl) (by simp) ?_
    refine cons_l rfl (fun K hK => ?_) AllReadyH.nil
    go_simp
    go_wp2_with fail
    refine hK.out _ _ HB0.out (fun hHeld => ?_)
    clear hK K
    simp only [Act.put, List.setIfInBounds_toArray, List.set_cons_zero, List.set_cons_succ]
    refine take_l (i := 6) (v := ?_) rfl (by kernel_rfl) (by kernel_rfl) (by kernel_rfl) (fun _ _ _ h => h) (Or.inl ⟨by rfl, ?_⟩) (by assumption) ?_
    case refine_2 => (intro _ _; go_simp; all_goals with_reducible rfl)
    simp only [Act.put, List.setIfInBounds_toArray, List.set_cons_zero, List.set_cons_succ]
    clear hHeld
    refine wpAnyH_ready (rs := [7]) (by kernel_rfl) (by simp) ?_
    refine cons_l rfl (fun K hK => ?_) AllReadyH.nil
    go_simp
    go_at_call 18
    refine (open_short X _ none a2 0 0 m ct u0 (nonce.map vb).toArray rfl (by omega)).mono ?_
    rintro e u1 ⟨rfl, hb⟩
    have HB1 := Lib.hid (nu_trans HB0.out hb)
    clear hb HB0
    go_wp2_with fail
    refine hK.out _ _ HB1.out (fun hHeld => ?_)
    clear hK K hHeld
    simp only [Act.put, List.setIfInBounds_toArray, List.set_cons_zero, List.set_cons_succ]
    have hHeld := HB1.out
    refine take_l (i := 8) (v := ?_) rfl (by kernel_rfl) (by kernel_rfl) (by kernel_rfl) (fun _ _ _ h => h) (Or.inl ⟨by rfl, ?_⟩) (by assumption) ?_
    case refine_2 => (intro _ _; go_simp; all_goals with_reducible rfl)
    simp only [Act.put, List.setIfInBounds_toArray, List.set_cons_zero, List.set_cons_succ]
    refine take_l (i := 9) (v := ?_) rfl (by kernel_rfl) (by kernel_rfl) (by kernel_rfl) (fun _ _ _ h => h) (Or.inl ⟨by rfl, ?_⟩) (by assumption) ?_
    case refine_2 => (intro _ _; go_simp; all_goals with_reducible rfl)
    simp only [Act.put, List.setIfInBounds_toArray, List.set_cons_zero, List.set_cons_succ]
    refine take_l (i := 10) (v := ?_) rfl (by kernel_rfl) (by kernel_rfl) (by kernel_rfl) (fun _ _ _ h => h) (Or.inl ⟨by rfl, ?_⟩) (by assumption) ?_
    case refine_2 => (intro _ _; go_simp; all_goals with_reducible rfl)
    simp only [Act.put, List.setIfInBounds_toArray, List.set_cons_zero, List.set_cons_succ]
    refine take_l (i := 11) (v := ?_) rfl (by kernel_rfl) (by kernel_rfl) (by kernel_rfl) (fun _ _ _ h => h) (Or.inl ⟨by rfl, ?_⟩) (by assumption) ?_
    case refine_2 => (intro _ _; go_simp; all_goals with_reducible rfl)
    simp only [Act.put, List.setIfInBounds_toArray, List.set_cons_zero, List.set_cons_succ]
    refine take_l (i := 12) (v := ?_) rfl (by kernel_rfl) (by kernel_rfl) (by kernel_rfl) (fun _ _ _ h => h) (Or.inl ⟨by rfl, ?_⟩) (by assumption) ?_
    case refine_2 => (intro _ _; go_simp; all_goals with_reducible rfl)
    simp only [Act.put, List.setIfInBounds_toArray, List.set_cons_zero, List.set_cons_succ]
    refine wpAnyH_done (by kernel_rfl) ?_ _
    clear hHeld
    have hn5 := nu_trans Hn3.out HB1.out
    go_wp2_with fail
    refine (awake8 u1).mono ?_
    rintro e u2 ⟨rfl, hb⟩
    have hn6 := nu_trans hn5 hb
    go_wp2_with fail
    go_ret
    exact ⟨rfl, hn6⟩
  · have HNw := Lib.hid (gcmNew_bad a len cap w2' (by omega) (by omega))
    clear hL
    go_wp2_with fail
    refine HNw.out.mono ?_
    rintro e w3 ⟨rfl, rfl⟩
    go_wp2_with fail
    refine (awake8 _).mono ?_
    rintro e w4 ⟨rfl, hb4⟩
    have hn4 := nu_trans Hn3.out hb4
    go_wp2_with fail
    go_ret
    exact ⟨rfl, hn4⟩
set_option maxRecDepth 100000 in
set_option maxHeartbeats 4000000 in
theorem gcmBack_walk (a : Option Addr) (len cap : Nat) (key : List Nat) (nonce : List Nat) (h12 : nonce.length = 12) (hx12 : ∀ x ∈ nonce, x < 256) (a1 a2 : Option Addr) (la ca lt ct : Nat) (xs ys : List Nat) (w : World) (hx : BytesIn w a len cap key) (h1 : BytesIn w a1 la ca xs) (h2 : BytesIn w a2 lt ct ys) (hac : la ≤ ca ∧ ca ≤ maxLen) :
    Calls Try.prog 6 #[.slice a len cap, .agg (nonce.map vb).toArray, .slice a1 la ca, .slice a2 lt ct] w fun e w' => e = .returned (.bool true) ∧ Below w.heap.size w w' := by
  have hal := nu_alloc (nu_refl w) (.cells (nonce.map vb).toArray 23)
  have HP := Lib.hid (Blk.made w 23 (nonce.map vb).toArray)
  have H12 := Lib.hid h12
  have Hx12 := Lib.hid hx12
  have HX := Lib.hid (hx.keep hal)
  have H1 := Lib.hid (h1.keep hal)
  have H2 := Lib.hid (h2.keep hal)
  have Hac := Lib.hid hac
  have Hal := Lib.hid hal
  have hkx : ∀ x ∈ key, x < 256 := fun x h => wf_u8_lt (hx.1.2.1 x h)
  have hkl : key.length = len := hx.1.1
  have H2x := Lib.hid (fun x h => wf_u8_lt (h2.1.2.1 x h))
  have H2l := Lib.hid (show ys.length = lt from h2.1.1)
  clear h12 hx12 hx h1 h2 hac hal
  by_cases hL : len = 16 ∨ len = 32
  · obtain ⟨Ws, hWs⟩ : ∃ Ws, Ws = expand key := ⟨_, rfl⟩
    obtain ⟨R, hR⟩ : ∃ R, R = key.length / 4 + 6 := ⟨_, rfl⟩
    have HK := Lib.hid (show Keyed Ws R by rw [hWs, hR]; exact keyed_of hkx (by rw [hkl]; exact hL))
    obtain ⟨h, hh⟩ : ∃ h, h = polB (enc Ws R z16n) := ⟨_, rfl⟩
    have Hh := Lib.hid (show h < 2 ^ 128 by rw [hh]; exact polB_lt _)
    have HW := Lib.hid (show ∀ (u : World) (X : Nat), GBox u X (expand key) (key.length / 4 + 6) (polB (enc (expand key) (key.length / 4 + 6) z16n)) → GBox u X Ws R h from fun u X hg => by rw [← hWs, ← hR, ← hh] at hg; exact hg)
    have HNw := Lib.hid (gcmNew_any hL HX.out)
    obtain ⟨v, hv⟩ : ∃ v, decide (1000 < la ∨ 1000 < lt) = v := ⟨_, rfl⟩
    clear hWs hR hh hkx hkl hL
    go_enter Try.func6, Try.ntmps6
    go_upto_region 1 with fail
    generalize w.alloc (.cells (nonce.map vb).toArray 23) = w1 at *
    obtain ⟨P, hP⟩ : ∃ P, P = w.heap.size := ⟨_, rfl⟩
    rw [← hP] at HP
    rw [← hP]
    clear hP
    go_wp2_with fail
    refine HNw.out.mono ?_
    rintro e w2 ⟨X, rfl, hG, hb2, _⟩
    have HG := Lib.hid (HW.out w2 X hG)
    have HP2 := Lib.hid (HP.out.below hb2 HP.out.lt)
    have H12' := Lib.hid (H1.out.keep hb2)
    have H22 := Lib.hid (H2.out.keep hb2)
    have Hn2 := Lib.hid (nu_trans Hal.out hb2)
    have Hv := Lib.hid hv
    clear hG hb2 HP HX H1 H2 Hal HNw hv
    go_wp2_with fail
    refine (great_any a1 a2 la ca lt ct w2 v Hv.out).mono ?_
    rintro e w' ⟨rfl, rfl⟩
    cases v
    · have hgr := Hv.out
      rw [decide_eq_false_iff_not] at hgr
      have hla : la ≤ 1000 := by omega
      have hlt : lt ≤ 1000 := by omega
      have HS := Lib.hid (seal_any HG.out HK.out Hh.out nonce H12.out Hx12.out a1 la ca xs H12'.out (by omega) Hac.out a2 lt ct ys H22.out (by omega))
      clear hgr
      go_wp2_with (refine wpList_run _ (by rfl) (e12_load HP2.out H12.out (.tmp 5) rfl rfl) ?_)
      refine HS.out.mono ?_
      rintro e w3 ⟨vs, rfl, hO, hb3⟩
      obtain ⟨sa, sc, hvs, hs1, hs2, hsB⟩ := hO.reads
      have hsl : (sealL Ws R nonce h xs ys).length = lt + 16 := by rw [sealL_len, H2l.out]
      rw [hsl] at hvs hs1 hsB
      subst hvs
      have HO := Lib.hid (open_good (HG.out.below hb3) HK.out Hh.out nonce H12.out Hx12.out a1 la ca xs (H12'.out.keep hb3) (by omega) Hac.out sa (lt + 16) sc lt (sealL Ws R nonce h xs ys) hsB rfl (by omega) ⟨hs1, hs2⟩ (by
        unfold sealL
        rw [List.take_left' (by rw [turned_len, H2l.out]), List.drop_left' (by rw [turned_len, H2l.out])]))
      have HT := Lib.hid (show turned Ws R nonce ((sealL Ws R nonce h xs ys).take lt) = ys by
        unfold sealL
        rw [List.take_left' (by rw [turned_len, H2l.out]), turned_turned])
      have HP3 := Lib.hid (HP2.out.below hb3 HP2.out.lt)
      have H23 := Lib.hid (H22.out.keep hb3)
      have Hn3 := Lib.hid (nu_trans Hn2.out hb3)
      clear hO hb3 hs1 hs2 hsB hsl HS HP2 H12' H22 Hn2 HG
      go_wp2_with (refine wpList_run _ (by rfl) (e12_load HP3.out H12.out (.tmp 5) rfl rfl) ?_)
      refine HO.out.mono ?_
      rintro e w4 ⟨vp, rfl, hO4, hb4⟩
      rw [HT.out] at hO4
      obtain ⟨pa, pc, hvp, hp1, hp2, hpB⟩ := hO4.reads
      rw [H2l.out] at hvp hpB
      subst hvp
      have HSm := Lib.hid (same_is (w := w4) (ca := pc) (cb := ct) true (by simp) hpB.1 ((H23.out.keep hb4).1) (by omega) (by omega))
      have Hn4 := Lib.hid (nu_trans Hn3.out hb4)
      clear hO4 hb4 hp1 hp2 hpB HO HP3 H23 Hn3
      go_wp2_with fail
      refine HSm.out.mono ?_
      rintro e w5 ⟨rfl, nn, rfl⟩
      have hn5 := nu_drewN Hn4.out nn
      generalize w4.drewN nn = w5 at *
      clear HSm Hn4
      go_wp2_with fail
      refine (awake8 w5).mono ?_
      rintro e w6 ⟨rfl, hb6⟩
      have hn6 := nu_trans hn5 hb6
      go_wp2_with fail
      go_ret
      exact ⟨rfl, hn6⟩
    · go_wp2_with fail
      refine (awake8 _).mono ?_
      rintro e w4 ⟨rfl, hb4⟩
      have hn4 := nu_trans Hn2.out hb4
      go_wp2_with fail
      go_ret
      exact ⟨rfl, hn4⟩
  · have HNw := Lib.hid (gcmNew_bad a len cap (w.alloc (.cells (nonce.map vb).toArray 23)) (by omega) (by omega))
    clear hL hkl hkx
    go_enter Try.func6, Try.ntmps6
    go_wp2_with fail
    refine HNw.out.mono ?_
    rintro e w3 ⟨rfl, rfl⟩
    go_wp2_with fail
    refine (awake8 _).mono ?_
    rintro e w4 ⟨rfl, hb4⟩
    have hn4 := nu_trans Hal.out hb4
    go_wp2_with fail
    go_ret
    exact ⟨rfl, hn4⟩
end Go.Proofs.Ytpeibkdcglkimaa

namespace Go.Proofs.Ytpeibkdcglkimaa
open Go.ChangeShapes Go.WideShapes Go.ChangeAt Go.RowKit Fld Aes
set_option linter.unusedSimpArgs false

theorem rzero_256 : Try.zeroCells29 = ((List.replicate 256 0).map vb).toArray := by kernel_rfl
theorem size_256 {xs : List Nat} (h : xs.length = 256) : (Try.prog.info? 29).map (·.size) = some (xs.map vb).length := by rw [List.length_map, h]; kernel_rfl
theorem e256_load {o : Oper} {a : Act} {w : World} {g : Nat} {t : TypeId} {xs : List Nat} (hb : Blk w g t (xs.map vb).toArray) (h1 : xs.length = 256) (x : Operand) (ho : o.op = .load 29 x) (hx : a.eval x = .pointer (some ⟨g, 0, none⟩)) :
    (execOp a.eval o).run Try.prog w = .ok (.value (.agg (xs.map vb).toArray)) w :=
  exec_load_mid (P := Try.prog) (w := w) 29 x g 0 (xs.map vb) (.array 256 5) ho hx (range_blk hb) (by kernel_rfl) rfl (size_256 h1)
theorem results_cell_cell {fn : Func} {p q : Tmp} {ty : TypeId} (h : fn.results = #[.cell p ty, .cell q ty]) (tmps : Array Value) (P : Program) (w : World) :
    (results fn tmps).run P w = ((asAddr (tmps.getD p undef)).run P w).andThen fun a w1 => ((loadVar ty a).run P w1).andThen fun v w2 => ((asAddr (tmps.getD q undef)).run P w2).andThen fun a2 w3 => ((loadVar ty a2).run P w3).andThen fun v2 w4 => .ok (.tuple #[v, v2]) w4 := by
  simp only [results, h]
  simp [Sem.run_bind, Result.andThen]
theorem results_two {fn : Func} {p q : Tmp} {ty : TypeId} (h : fn.results = #[.cell p ty, .cell q ty]) (tmps : Array Value) {w : World} {g g' : Nat} {t t' : TypeId} {cs cs' : Array Value} (hp : tmps.getD p undef = .pointer (some ⟨g, 0, none⟩)) (hq : tmps.getD q undef = .pointer (some ⟨g', 0, none⟩)) (hb : Blk w g t cs) (hb' : Blk w g' t' cs')
    {n : Nat} {e : TypeId} (hu : Try.prog.underlying ty = some (.array n e)) (hi : (Try.prog.info? ty).map (·.size) = some cs.size) (hi' : (Try.prog.info? ty).map (·.size) = some cs'.size) : (results fn tmps).run Try.prog w = .ok (.tuple #[.agg cs, .agg cs']) w := by
  rw [results_cell_cell h, hp, hq]
  simp [asAddr, run_loadVar_row w g t ty cs (0, 0) (.array n e) hb hu rfl hi, run_loadVar_row w g' t' ty cs' (0, 0) (.array n e) hb' hu rfl hi']

set_option maxRecDepth 100000 in
set_option maxHeartbeats 4000000 in
theorem boxes_any (w : World) : Calls Try.prog 26 #[] w fun e w' => e = .returned (.tuple #[.agg (boxL.map vb).toArray, .agg (backL.map vb).toArray]) ∧ Below w.heap.size w w' := by
  have hal := nu_alloc (nu_alloc (nu_alloc (nu_alloc (nu_refl w) (.cells Try.zeroCells29 29)) (.cells Try.zeroCells29 29)) (.cells Try.zeroCells29 29)) (.cells Try.zeroCells29 29)
  have HP := Lib.hid ((((Blk.made w 29 Try.zeroCells29).alloc (.cells Try.zeroCells29 29)).alloc (.cells Try.zeroCells29 29)).alloc (.cells Try.zeroCells29 29))
  have HQ := Lib.hid (((Blk.made1 w (.cells Try.zeroCells29 29) 29 Try.zeroCells29).alloc (.cells Try.zeroCells29 29)).alloc (.cells Try.zeroCells29 29))
  have HX := Lib.hid ((Blk.made2 w (.cells Try.zeroCells29 29) (.cells Try.zeroCells29 29) 29 Try.zeroCells29).alloc (.cells Try.zeroCells29 29))
  have HY := Lib.hid (Blk.made3 w (.cells Try.zeroCells29 29) (.cells Try.zeroCells29 29) (.cells Try.zeroCells29 29) 29 Try.zeroCells29)
  go_enter Try.func26, Try.ntmps26
  go_upto_region 2 with fail
  generalize (((w.alloc (.cells Try.zeroCells29 29)).alloc (.cells Try.zeroCells29 29)).alloc (.cells Try.zeroCells29 29)).alloc (.cells Try.zeroCells29 29) = w1 at *
  obtain ⟨Z, hZ⟩ : ∃ Z, Z = List.replicate 256 0 := ⟨_, rfl⟩
  have HZl := Lib.hid (show Z.length = 256 by rw [hZ]; exact List.length_replicate)
  have HZa := Lib.hid (show ∀ i, i < 256 → Z[i]? = some 0 from fun i hi => by rw [hZ, List.getElem?_replicate, if_pos hi])
  have hzz := rzero_256
  rw [← hZ] at hzz
  rw [hzz] at HP HQ HX HY
  have HY0 := Lib.hid (show Blk w1 (w.heap.size + 1 + 1 + 1) 29 ((backF 0).map vb).toArray from by rw [show backF 0 = Z by rw [hZ]; rfl]; exact HY.out)
  have HX0 := Lib.hid (show Blk w1 (w.heap.size + 1 + 1) 29 ((doneF boxL Z 0).map vb).toArray from by rw [doneF_zero]; exact HX.out)
  obtain ⟨Y, hY⟩ : ∃ Y, Y = w.heap.size + 1 + 1 + 1 := ⟨_, rfl⟩
  obtain ⟨X, hX⟩ : ∃ X, X = w.heap.size + 1 + 1 := ⟨_, rfl⟩
  obtain ⟨Q, hQ⟩ : ∃ Q, Q = w.heap.size + 1 := ⟨_, rfl⟩
  obtain ⟨P, hP⟩ : ∃ P, P = w.heap.size := ⟨_, rfl⟩
  rw [← hY] at HY0
  rw [← hX] at HX0
  rw [← hQ] at HQ
  rw [← hP] at HP
  rw [← hY, ← hX, ← hQ, ← hP]
  have Hap := Lib.hid (show P ≠ X ∧ P ≠ Y ∧ Q ≠ X ∧ Q ≠ Y ∧ X ≠ Y ∧ P ≠ Q ∧ w.heap.size ≤ P ∧ w.heap.size ≤ Q ∧ w.heap.size ≤ X ∧ w.heap.size ≤ Y from ⟨by omega, by omega, by omega, by omega, by omega, by omega, by omega, by omega, by omega, by omega⟩)
  clear HX HY hzz hZ hY hX hQ hP
  go_wp2_with fail
  go_loopw [4] (fun i wr => ∃ k : Nat, k ≤ 256 ∧ i = .int .i64 k ∧ Blk wr P 29 (Z.map vb).toArray ∧ Blk wr Q 29 (Z.map vb).toArray ∧ Blk wr X 29 ((doneF boxL Z k).map vb).toArray ∧ Blk wr Y 29 ((backF k).map vb).toArray ∧ Below w.heap.size w wr) (fun i _ => 256 - (intOf i).toNat)
  case atStart => exact ⟨0, by omega, rfl, HP.out, HQ.out, HX0.out, HY0.out, hal⟩
  case round =>
    clear HP HQ HX0 HY0 hal
    obtain ⟨k, hk, rfl, hP, hQ, hX, hY, hn⟩ := hrel
    have HP := Lib.hid hP
    have HQ := Lib.hid hQ
    have HX := Lib.hid hX
    have HY := Lib.hid hY
    clear hP hQ hX hY
    by_cases hlt : k < 256
    · have hki : (k : Int) < 256 := by omega
      have wk : IntKind.u8.wrap (k : Int) = (k : Int) := by rw [IntKind.wrap_u8]; omega
      have HBx := Lib.hid (refBox_any k hlt wr)
      obtain ⟨y, hy⟩ : ∃ y, y = sb k := ⟨_, rfl⟩
      rw [← hy] at HBx
      have hy8 : y < 256 := by rw [hy]; exact sb_lt k
      have hyi : (y : Int) < 256 := by omega
      have hxo : (doneF boxL Z k)[k]? = some 0 := by rw [doneF_old _ _ 256 k k boxL_len (Nat.le_refl _) hk]; exact HZa.out k hlt
      have hyo := backF_at k hk y hy8
      obtain ⟨o, ho⟩ : ∃ o, o = if bs y < k then bs y else 0 := ⟨_, rfl⟩
      rw [← ho] at hyo
      have h1 := HX.out.put k (vb y)
      rw [arrg_set, doneF_set _ _ 256 k y boxL_len HZl.out hlt (by rw [hy]; exact boxL_at k hlt)] at h1
      have HX1 := Lib.hid h1
      have HY1 := Lib.hid (HY.out.far (p := ⟨X, k, none⟩) (Ne.symm Hap.out.2.2.2.2.1) (vb y))
      have HP1 := Lib.hid (HP.out.far (p := ⟨X, k, none⟩) Hap.out.1 (vb y))
      have HQ1 := Lib.hid (HQ.out.far (p := ⟨X, k, none⟩) Hap.out.2.2.1 (vb y))
      have hn1 := nu_set hn (p := ⟨X, k, none⟩) Hap.out.2.2.2.2.2.2.2.2.1 (vb y)
      have cX : wr.cell? ⟨X, k, none⟩ = some (.int .u8 ((0 : Nat) : Int)) := HX.out.at k _ (arrg_at vb _ k 0 hxo)
      have fX := HX.out.free k
      simp only [vb] at HX1 HY1 HP1 HQ1 hn1
      have Hyo := Lib.hid (And.intro hyo hy)
      obtain ⟨wo, rfl⟩ : ∃ q : World, q = wr := ⟨_, rfl⟩
      clear hxo hyo ho h1 HP HQ HX HY hn hy
      go_wp2_with fail
      refine HBx.out.mono ?_
      rintro e w' ⟨rfl, rfl⟩
      clear HBx
      go_upto_region 7 with fail
      clear cX fX
      generalize wo.setCell ⟨X, k, none⟩ (.int .u8 (y : Int)) = w3 at *
      have cY : w3.cell? ⟨Y, y, none⟩ = some (.int .u8 (o : Int)) := HY1.out.at y _ (arrg_at vb _ y o Hyo.out.1)
      have fY := HY1.out.free y
      have h2 := HY1.out.put y (vb k)
      rw [arrg_set, show (backF k).set y k = backF (k + 1) by rw [backF, ← Hyo.out.2]] at h2
      have HY2 := Lib.hid h2
      have HX2 := Lib.hid (HX1.out.far (p := ⟨Y, y, none⟩) Hap.out.2.2.2.2.1 (vb k))
      have HP2 := Lib.hid (HP1.out.far (p := ⟨Y, y, none⟩) Hap.out.2.1 (vb k))
      have HQ2 := Lib.hid (HQ1.out.far (p := ⟨Y, y, none⟩) Hap.out.2.2.2.1 (vb k))
      have hn2 := nu_set hn1 (p := ⟨Y, y, none⟩) Hap.out.2.2.2.2.2.2.2.2.2 (vb k)
      simp only [vb] at HX2 HY2 HP2 HQ2 hn2
      clear h2 HP1 HQ1 HX1 HY1 hn1
      go_wp2_with fail
      clear cY fY
      generalize w3.setCell ⟨Y, y, none⟩ (.int .u8 (k : Int)) = w4 at *
      go_roundw
      case rel => first | exact ⟨k + 1, by omega, by go_num, HP2.out, HQ2.out, HX2.out, HY2.out, hn2⟩ | ((repeat apply Exists.intro); exact ⟨⟨k + 1, by omega, by go_num, HP2.out, HQ2.out, HX2.out, HY2.out, hn2⟩, rfl⟩)
      case measure => simp [intOf]; omega
    · obtain rfl : k = 256 := by omega
      have hX := HX.out
      have hY := HY.out
      rw [doneF_all _ _ 256 boxL_len HZl.out] at hX
      rw [backF_all] at hY
      obtain ⟨bx, hbx⟩ : ∃ bx, bx = boxL := ⟨_, rfl⟩
      obtain ⟨bk, hbk⟩ : ∃ bk, bk = backL := ⟨_, rfl⟩
      have Hx256 := Lib.hid (show bx.length = 256 by rw [hbx]; exact boxL_len)
      have Hk256 := Lib.hid (show bk.length = 256 by rw [hbk]; exact backL_len)
      rw [← hbx] at hX
      rw [← hbk] at hY
      have Hbe := Lib.hid (And.intro hbx hbk)
      have HS := Lib.hid (And.intro hX hY)
      have Hn := Lib.hid hn
      clear hX hY HX HY hbx hbk hn
      obtain ⟨wo, rfl⟩ : ∃ q : World, q = wr := ⟨_, rfl⟩
      go_upto_region 8 with fail
      refine wp_region_held_drew (S := fun W => Blk W X 29 (bx.map vb).toArray ∧ Blk W Y 29 (bk.map vb).toArray) (by kernel_rfl) (⟨HS.out.1.drew, HS.out.2.drew⟩) (fun hHeld => ?_)
      dsimp only [Array.replicate, List.replicate, List.size_toArray, List.length_cons, List.length_nil, Nat.reduceAdd] at hHeld ⊢
      have HP3 := Lib.hid HP.out.drew
      have HQ3 := Lib.hid HQ.out.drew
      have Hn3 := Lib.hid (nu_drew Hn.out)
      have HS3 := Lib.hid hHeld
      clear HP HQ Hn HS
      generalize wo.drew = w3 at *
      refine take_l (i := 0) rfl (by kernel_rfl) (by kernel_rfl) (by kernel_rfl) (fun _ _ _ h => h) (Or.inl ⟨by rfl, fun W hS => e256_load hS.1 Hx256.out (.tmp 2) rfl rfl⟩) (by assumption) ?_
      simp only [Act.put, List.setIfInBounds_toArray, List.set_cons_zero, List.set_cons_succ]
      refine take_l (i := 1) rfl (by kernel_rfl) (by kernel_rfl) (by kernel_rfl) (fun _ _ _ h => h) (Or.inl ⟨by rfl, fun W hS => e256_load hS.2 Hk256.out (.tmp 3) rfl rfl⟩) (by assumption) ?_
      simp only [Act.put, List.setIfInBounds_toArray, List.set_cons_zero, List.set_cons_succ]
      clear hHeld
      refine wpAnyH_ready (rs := [2]) (by kernel_rfl) (by simp) ?_
      refine cons_l rfl (fun K hK => ?_) AllReadyH.nil
      refine step_store_blk rfl 29 (.tmp 0) (.tmp 20) rfl P (bx.map vb) rfl rfl 29 (Z.map vb).toArray HP3.out (by rw [List.length_map, Hx256.out, List.size_toArray, List.length_map, HZl.out]) (size_256 Hx256.out) (vb_one _) ?_
      have HP4 := Lib.hid (Blk.fill HP3.out (bx.map vb) (by rw [List.length_map, Hx256.out, List.size_toArray, List.length_map, HZl.out]))
      have HQ4 := Lib.hid (HQ3.out.farCells (bx.map vb) (Ne.symm Hap.out.2.2.2.2.2.1) 0)
      have HS4 := Lib.hid (And.intro (HS3.out.1.farCells (bx.map vb) (Ne.symm Hap.out.1) 0) (HS3.out.2.farCells (bx.map vb) (Ne.symm Hap.out.2.1) 0))
      have Hn4 := Lib.hid (nu_fill (bx.map vb) (g := P) Hap.out.2.2.2.2.2.2.1 0 _ Hn3.out)
      refine hK.out _ _ HS4.out (fun hHeld => ?_)
      clear hK K hHeld
      simp only [Act.put, List.setIfInBounds_toArray, List.set_cons_zero, List.set_cons_succ]
      refine wpAnyH_ready (rs := [3]) (by kernel_rfl) (by simp) ?_
      refine cons_l rfl (fun K hK => ?_) AllReadyH.nil
      refine step_store_blk rfl 29 (.tmp 1) (.tmp 21) rfl Q (bk.map vb) rfl rfl 29 (Z.map vb).toArray HQ4.out (by rw [List.length_map, Hk256.out, List.size_toArray, List.length_map, HZl.out]) (size_256 Hk256.out) (vb_one _) ?_
      have HQ5 := Lib.hid (Blk.fill HQ4.out (bk.map vb) (by rw [List.length_map, Hk256.out, List.size_toArray, List.length_map, HZl.out]))
      have HP5 := Lib.hid (HP4.out.farCells (bk.map vb) Hap.out.2.2.2.2.2.1 0)
      have HS5 := Lib.hid (And.intro (HS4.out.1.farCells (bk.map vb) (Ne.symm Hap.out.2.2.1) 0) (HS4.out.2.farCells (bk.map vb) (Ne.symm Hap.out.2.2.2.1) 0))
      have Hn5 := Lib.hid (nu_fill (bk.map vb) (g := Q) Hap.out.2.2.2.2.2.2.2.1 0 _ Hn4.out)
      refine hK.out _ _ HS5.out (fun hHeld => ?_)
      clear hK K hHeld
      simp only [Act.put, List.setIfInBounds_toArray, List.set_cons_zero, List.set_cons_succ]
      refine wpAnyH_done (by kernel_rfl) ?_ _
      go_wp2_with fail
      refine bodyPost_ret (results_two rfl _ rfl rfl HP5.out HQ5.out Try.underlying29 (by rw [List.size_toArray]; exact size_256 Hx256.out) (by rw [List.size_toArray]; exact size_256 Hk256.out)) rfl ⟨by rw [Hbe.out.1, Hbe.out.2], Hn5.out⟩
end Go.Proofs.Ytpeibkdcglkimaa

namespace Go.Proofs.Ytpeibkdcglkimaa
open Go.ChangeShapes Go.WideShapes Go.ChangeAt Go.RowKit Fld Aes
set_option linter.unusedSimpArgs false

end Go.Proofs.Ytpeibkdcglkimaa

namespace Go.Proofs.Ytpeibkdcglkimaa
open Go.ChangeShapes Go.WideShapes Go.ChangeAt Go.RowKit Fld Aes
set_option linter.unusedSimpArgs false

theorem e16_byte {o : Oper} {a : Act} {w : World} {g i : Nat} {y : Int} (hc : w.cell? ⟨g, i, none⟩ = some (.int .u8 y)) (x : Operand) (ho : o.op = .load 5 x) (hx : a.eval x = .pointer (some ⟨g, i, none⟩)) :
    (execOp a.eval o).run Try.prog w = .ok (.value (.int .u8 y)) w := by
  unfold execOp
  simp only [ho, hx]
  go_simp
theorem Blk.fillMid {w : World} {g : Nat} {t : TypeId} {l m r : List Value} (h : Blk w g t (l ++ m ++ r).toArray) (vs : List Value) (hl : vs.length = m.length) {k : Nat} (hk : k = l.length) : Blk (w.setCells g k vs) g t (l ++ vs ++ r).toArray := by
  subst hk
  have h1 := blk_setCells vs l.length w _ h
  have h2 := fold_set vs l.length (l ++ m ++ r).toArray (by simp; omega)
  have h3 : (l ++ m ++ r).toArray.toList.take l.length = l := by simp
  have h4 : (l ++ m ++ r).toArray.toList.drop (l.length + vs.length) = r := by rw [hl]; simp
  rw [h3, h4] at h2
  have h5 := congrArg List.toArray h2
  rw [Array.toArray_toList] at h5
  rw [h5] at h1
  exact h1
theorem wpList_store_in {P : Program} {ops : Array Oper} {rest : List Oper} {o : Oper} {a : Act} {w : World} {Q : Exit → Act → World → Prop} (hgd : o.guard = none) (ty : TypeId) (x y : Operand) (ho : o.op = .store ty x y) (g k : Nat) (vs : List Value) (hx : a.eval x = .pointer (some ⟨g, k, none⟩)) (hy : a.eval y = .agg vs.toArray)
    (t : TypeId) (cs : Array Value) (hb : Blk w g t cs) (hl : k + vs.length ≤ cs.size) (hi : (P.info? ty).map (·.size) = some vs.length) (h1 : ∀ v ∈ vs, v.oneCell' = true)
    (h : wpList P ops Q rest (a.put o.dst undef) (w.setCells g k vs)) : wpList P ops Q (o :: rest) a w :=
  wpList_store_mid hgd ty x y ho g k vs.toArray hx hy (hb.there k _ (by simpa using hl)) (by simpa using hi) (all_oneCell_toArray h1) (by simpa using h)
/-- The zero key. -/
def keyZ : List Value := .slice none 0 0 :: ((List.replicate 256 0).map vb ++ (List.replicate 256 0).map vb)
theorem zero_key : Try.zeroCells31 = keyZ.toArray := by kernel_rfl
theorem key_box {w : World} {g : Nat} {t : TypeId} (h : Blk w g t keyZ.toArray) : Blk (w.setCells g 1 (boxL.map vb)) g t ([Value.slice none 0 0] ++ boxL.map vb ++ (List.replicate 256 0).map vb).toArray :=
  Blk.fillMid (l := [.slice none 0 0]) (m := (List.replicate 256 0).map vb) (r := (List.replicate 256 0).map vb) h (boxL.map vb) (by rw [List.length_map, List.length_map, boxL_len, List.length_replicate]) rfl
theorem key_back {w : World} {g : Nat} {t : TypeId} (h : Blk w g t ([Value.slice none 0 0] ++ boxL.map vb ++ (List.replicate 256 0).map vb).toArray) : Blk (w.setCells g 257 (backL.map vb)) g t (rkeyL (.slice none 0 0)).toArray := by
  have h2 := Blk.fillMid (l := [.slice none 0 0] ++ boxL.map vb) (m := (List.replicate 256 0).map vb) (r := []) (by rw [List.append_nil]; exact h) (backL.map vb) (by rw [List.length_map, List.length_map, backL_len, List.length_replicate]) (k := 257) (by rw [List.length_append, List.length_map, boxL_len]; rfl)
  rw [List.append_nil] at h2
  exact h2
theorem rkeyL_set (v v' : Value) : (rkeyL v).toArray.setIfInBounds 0 v' = (rkeyL v').toArray := by
  rw [List.setIfInBounds_toArray, rkeyL, rkeyL, List.set_cons_zero]
/-- The bytes of a word, as values. -/
def elL (y : Nat) : List Nat := [wb y 0, wb y 1, wb y 2, wb y 3]
theorem flat_more (W : List Nat) (y : Nat) : (flat (W ++ [y])).map vb = (flat W).map vb ++ (elL y).map vb := by rw [flat_snoc, List.map_append]; rfl
theorem info_el : (Try.prog.info? 58).map (fun i => (i.zero, i.size, i.bytes)) = some (some (.agg (z4.map vb).toArray), 4, 4) := by kernel_rfl
theorem own_apart {w w' : World} {base : Nat} {e : TypeId} {size : Nat} {v : Value} {n k : Nat} {xs : List Value} (h : w.ownsRow base e size v n xs) (hb : w.grownBy w' (some k)) (hk : w.heap.size ≤ k) : w'.ownsRow base e size v n xs :=
  h.kept hb (by
    cases hv : v.ownBlock with
    | none => exact .inl rfl
    | some j =>
      refine .inr (fun e => ?_)
      injection e with e
      have := (h.lt j hv).2
      omega)
/-- What New holds: the key, its result, its box, the rows so far. -/
structure RK (w : World) (KK KR X B0 : Nat) (W : List Nat) (v : Value) (u : World) : Prop where
  c : Blk u KK 31 (rkeyL v).toArray
  z : Blk u KR 31 keyZ.toArray
  x : Blk u X 29 (boxL.map vb).toArray
  own : u.ownsRow B0 58 4 v W.length ((flat W).map vb)
  nu : Below w.heap.size w u
  base : B0 ≤ u.heap.size
  ord : w.heap.size ≤ KK ∧ KK < B0 ∧ w.heap.size ≤ KR ∧ KR < B0 ∧ X < B0 ∧ KR ≠ KK ∧ X ≠ KK
section
variable {w u u' : World} {KK KR X B0 : Nat} {W : List Nat} {v : Value}
theorem RK.under (H : RK w KK KR X B0 W v u) (hb : Below u.heap.size u u') : RK w KK KR X B0 W v u' :=
  ⟨H.c.below hb H.c.lt, H.z.below hb H.z.lt, H.x.below hb H.x.lt, own_kept H.own hb, nu_trans H.nu hb, Nat.le_trans H.base hb.size, H.ord⟩
/-- .. behind a block that came later. -/
theorem RK.later (H : RK w KK KR X B0 W v u) {u0 : World} {k : Nat} (H0 : u.heap.size ≤ k) (hu : Below u.heap.size u u0) (hb : u0.grownBy u' (some k)) : RK w KK KR X B0 W v u' :=
  H.under (below_turned hu hb hu.size H0)
theorem RK.push (H : RK w KK KR X B0 W v u) {v' : Value} {y : Nat} (hown : u'.ownsRow B0 58 4 v' (W.length + 1) ((flat W).map vb ++ (elL y).map vb)) (hg : u.grownBy u' v.ownBlock) :
    RK w KK KR X B0 (W ++ [y]) v' (u'.setCell ⟨KK, 0, none⟩ v') ∧ Blk u' KK 31 (rkeyL v).toArray ∧ Below w.heap.size w u' := by
  have hb : Below B0 u u' := below_grown hg H.base (fun k hk => (H.own.lt k hk).1)
  have hc : Blk u' KK 31 (rkeyL v).toArray := H.c.below hb H.ord.2.1
  have hgs : u'.grownBy (u'.setCell ⟨KK, 0, none⟩ v') (some KK) := gb_set (gb_refl u' (some KK)) (p := ⟨KK, 0, none⟩) (.inl rfl) v'
  have hput := hc.put 0 v'
  rw [rkeyL_set] at hput
  refine ⟨⟨hput, (H.z.below hb H.ord.2.2.2.1).far (p := ⟨KK, 0, none⟩) H.ord.2.2.2.2.2.1 v', (H.x.below hb H.ord.2.2.2.2.1).far (p := ⟨KK, 0, none⟩) H.ord.2.2.2.2.2.2 v', ?_, ?_, Nat.le_trans H.base (Nat.le_trans hb.size hgs.size), H.ord⟩, hc, H.nu.trans (hb.mono (by have := H.ord; omega))⟩
  · have h := own_off hown hgs H.ord.2.1
    rw [List.length_append, flat_more]
    exact h
  · exact nu_set (H.nu.trans (hb.mono (by have := H.ord; omega))) (p := ⟨KK, 0, none⟩) H.ord.1 v'
theorem RK.rows (H : RK w KK KR X B0 W v u) (h0 : 0 < W.length) : RowsAt u v W := by
  rcases H.own.2 with ⟨_, h⟩ | ⟨m, c, cur, hv, hb, hm, hc1, hc2, _, htk⟩
  · omega
  · exact ⟨m, c, cur, hv, hm, htk, hc1, hc2⟩
end
theorem row_at {w : World} {base m c n : Nat} {W : List Nat} (h : w.ownsRow base 58 4 (.slice (some ⟨m, 0, none⟩) n c) n ((flat W).map vb)) (hl : W.length = n) (i j : Nat) (hi : i < n) (hj : j < 4) : w.cell? ⟨m, i * 4 + j, none⟩ = some (.int .u8 ((wb (W.getD i 0) j : Nat) : Int)) := by
  rw [h.cellAt (i * 4 + j) (by omega), List.getElem?_map, show i * 4 + j = 4 * i + j by omega, flat_at W i j (by omega) hj]
  rfl
theorem row_range {w : World} {base m c n : Nat} {W : List Nat} (h : w.ownsRow base 58 4 (.slice (some ⟨m, 0, none⟩) n c) n ((flat W).map vb)) (hl : W.length = n) (i : Nat) (hi : i < n) : w.rangeAt m (i * 4) ((elL (W.getD i 0)).map vb) := fun j v hv => by
  rw [List.getElem?_map] at hv
  obtain ⟨x, hx, rfl⟩ := Option.map_eq_some_iff.1 hv
  have hj : j < 4 := (List.getElem?_eq_some_iff.1 hx).1
  rw [row_at h hl i j hi hj]
  have : j = 0 ∨ j = 1 ∨ j = 2 ∨ j = 3 := by omega
  rcases this with rfl | rfl | rfl | rfl <;> (cases hx; rfl)
theorem wb_top (g : Nat) (hg : g < 256) : wb (g * 16777216) 0 = g ∧ wb (g * 16777216) 1 = 0 ∧ wb (g * 16777216) 2 = 0 ∧ wb (g * 16777216) 3 = 0 := by
  simp only [wb]
  omega
theorem elL_at (t i : Nat) (h : i < 4) : (elL t)[i]? = some (wb t i) := by
  have : i = 0 ∨ i = 1 ∨ i = 2 ∨ i = 3 := by omega
  rcases this with rfl | rfl | rfl | rfl <;> rfl
theorem e4_load {o : Oper} {a : Act} {w : World} {b f : Nat} {cs : List Value} (hc : w.rangeAt b f cs) (h1 : cs.length = 4) (x : Operand) (ho : o.op = .load 58 x) (hx : a.eval x = .pointer (some ⟨b, f, none⟩)) :
    (execOp a.eval o).run Try.prog w = .ok (.value (.agg cs.toArray)) w :=
  exec_load_mid (P := Try.prog) (w := w) 58 x b f cs (.array 4 5) ho hx hc (by kernel_rfl) rfl (by rw [h1]; kernel_rfl)
/-- What the word ahead becomes, byte by byte. -/
theorem turn_zero (n j t : Nat) (h : j % n = 0) : elL (turnOf n j t) = [sb (wb t 1) ^^^ gpow 2 (j / n - 1), sb (wb t 2), sb (wb t 3), sb (wb t 0)] := by
  have hg := gpow_lt 2 (j / n - 1)
  have hT := wb_top (gpow 2 (j / n - 1)) hg
  have hs := wb_subW (rotW t)
  have hr := wb_rotW t
  unfold elL turnOf
  rw [if_pos h, wb_xor, wb_xor, wb_xor, wb_xor, hT.1, hT.2.1, hT.2.2.1, hT.2.2.2, hs.1, hs.2.1, hs.2.2.1, hs.2.2.2, hr.1, hr.2.1, hr.2.2.1, hr.2.2.2, Nat.xor_zero, Nat.xor_zero, Nat.xor_zero]
theorem turn_four (j t : Nat) (n : Nat) (h : ¬ j % n = 0) (h8 : n = 8) (h4 : j % 8 = 4) : elL (turnOf n j t) = [sb (wb t 0), sb (wb t 1), sb (wb t 2), sb (wb t 3)] := by
  have hs := wb_subW t
  unfold elL turnOf
  rw [if_neg h, if_pos ⟨h8, h4⟩, hs.1, hs.2.1, hs.2.2.1, hs.2.2.2]
theorem elL_xor (a b : Nat) : elL (a ^^^ b) = [wb a 0 ^^^ wb b 0, wb a 1 ^^^ wb b 1, wb a 2 ^^^ wb b 2, wb a 3 ^^^ wb b 3] := by
  unfold elL
  rw [wb_xor, wb_xor, wb_xor, wb_xor]
end Go.Proofs.Ytpeibkdcglkimaa

namespace Go.Proofs.Ytpeibkdcglkimaa
open Go.ChangeShapes Go.WideShapes Go.ChangeAt Go.RowKit Fld Aes
set_option linter.unusedSimpArgs false

theorem keyZ_len : keyZ.length = 513 := by rw [keyZ, List.length_cons, List.length_append, List.length_map, List.length_replicate]
set_option maxRecDepth 100000 in
set_option maxHeartbeats 1000000 in
theorem refNew_bad (a : Option Addr) (L cap : Nat) (w : World) (h1 : L ≠ 16) (h2 : L ≠ 32) :
    Calls Try.prog 10 #[.slice a L cap] w fun e w' => e = .returned (.tuple #[.agg keyZ.toArray, .bool false]) ∧ Below w.heap.size w w' := by
  have t1 : ((L : Int) != 16) = true := by rw [bne_iff_ne]; omega
  have t2 : ((L : Int) != 32) = true := by rw [bne_iff_ne]; omega
  have hal := nu_alloc (nu_alloc (nu_refl w) (.cells Try.zeroCells31 31)) (.cells Try.zeroCells31 31)
  have HR := Lib.hid ((Blk.made w 31 Try.zeroCells31).alloc (.cells Try.zeroCells31 31))
  have HK := Lib.hid (Blk.made1 w (.cells Try.zeroCells31 31) 31 Try.zeroCells31)
  go_enter Try.func10, Try.ntmps10
  go_upto_region 2 with fail
  generalize (w.alloc (.cells Try.zeroCells31 31)).alloc (.cells Try.zeroCells31 31) = w1 at *
  rw [zero_key] at HR HK
  obtain ⟨L, hL⟩ : ∃ L, L = keyZ := ⟨_, rfl⟩
  have HLl := Lib.hid (show L.length = 513 by rw [hL]; exact keyZ_len)
  have HL1 := Lib.hid (show ∀ v ∈ L, v.oneCell' = true by
    rw [hL]
    intro v hv
    rcases List.mem_cons.1 hv with rfl | hv
    · rfl
    · rcases List.mem_append.1 hv with hv | hv <;> exact vb_one _ v hv)
  rw [← hL] at HR HK
  have HLe := Lib.hid hL
  have HF := Lib.hid (Blk.fill HR.out L (by rw [List.size_toArray]))
  have Hn := Lib.hid (nu_fill L (g := w.heap.size) (Nat.le_refl _) 0 _ hal)
  clear hal hL
  go_wp2_with (first | (refine wpList_run _ (by rfl) (eKey_load HK.out HLl.out (.tmp 4) rfl rfl) ?_) | (refine wpList_store_in rfl 31 (.tmp 2) (.tmp 21) rfl w.heap.size 0 L rfl rfl 31 L.toArray HR.out (by rw [List.size_toArray]; omega) (by rw [HLl.out]; kernel_rfl) HL1.out ?_))
  refine bodyPost_ret (results_blkS2 rfl _ w.heap.size 31 L.toArray rfl HF.out Try.underlying31 (by rw [List.size_toArray, HLl.out]; kernel_rfl)) rfl ⟨by rw [HLe.out]; rfl, Hn.out⟩
def RefMade (w : World) (W : List Nat) (e : Ending) (w' : World) : Prop := ∃ v, e = .returned (.tuple #[.agg (rkeyL v).toArray, .bool true]) ∧ RowsAt w' v W ∧ Below w.heap.size w w'
set_option maxRecDepth 100000 in
set_option maxHeartbeats 8000000 in
theorem refNew_any (n L : Nat) (hn : n = 4 ∨ n = 8) (hL : L = 4 * n) (a : Option Addr) (cap : Nat) (key : List Nat) (w : World) (hx : BytesIn w a L cap key) :
    Calls Try.prog 10 #[.slice a L cap] w (RefMade w (expand key)) := by
  obtain ⟨i0, hi, hz0, hz1, hz2⟩ := info_parts info_el
  have Hi := Lib.hid (And.intro hi (And.intro hz0 (And.intro hz1 hz2)))
  have Hkl := Lib.hid (show key.length = L from hx.1.1)
  have Hkx := Lib.hid (fun x h => wf_u8_lt (hx.1.2.1 x h))
  obtain ⟨b1, o1, rfl, hbl, hcell⟩ := hx.1.2.2 (by omega)
  have Hcell := Lib.hid (show ∀ j x : Nat, key[j]? = some x → w.cell? ⟨b1, o1 + j, none⟩ = some (.int .u8 (x : Int)) from hcell)
  have hn8 : n ≤ 8 := by omega
  have hn4 : 4 ≤ n := by omega
  have hq : (L : Int) / 4 = (n : Int) := by omega
  have HL := Lib.hid hL
  have Hn := Lib.hid hn
  have hcases : (((L : Int) == 16) = true ∧ ((L : Int) != 16) = false) ∨ (((L : Int) != 16) = true ∧ ((L : Int) != 32) = false) := by
    rcases hn with rfl | rfl
    · subst hL; exact .inl ⟨rfl, rfl⟩
    · subst hL; exact .inr ⟨rfl, rfl⟩
  have hL32 : L ≤ 32 := by omega
  have hal := nu_alloc (nu_alloc (nu_refl w) (.cells Try.zeroCells31 31)) (.cells Try.zeroCells31 31)
  have HR := Lib.hid ((Blk.made w 31 Try.zeroCells31).alloc (.cells Try.zeroCells31 31))
  have HK := Lib.hid (Blk.made1 w (.cells Try.zeroCells31 31) 31 Try.zeroCells31)
  clear hi hz0 hz1 hz2 hx hcell hL hn
  go_enter Try.func10, Try.ntmps10
  go_upto_region 2 with fail
  generalize (w.alloc (.cells Try.zeroCells31 31)).alloc (.cells Try.zeroCells31 31) = w1 at *
  rw [zero_key] at HR HK
  obtain ⟨KK, hKK⟩ : ∃ KK, KK = w.heap.size + 1 := ⟨_, rfl⟩
  obtain ⟨KR, hKR⟩ : ∃ KR, KR = w.heap.size := ⟨_, rfl⟩
  rw [← hKK] at HK
  rw [← hKR] at HR
  rw [← hKK, ← hKR]
  have Ho := Lib.hid (show w.heap.size ≤ KK ∧ w.heap.size ≤ KR ∧ KR ≠ KK from ⟨by omega, by omega, by omega⟩)
  have Hal := Lib.hid hal
  clear hKK hKR hal
  go_cut [20] (fun s20 wx => s20 = .bool false ∧ wx = w1)
  case first =>
    rcases hcases with ⟨t1, t2⟩ | ⟨t1, t2⟩
    · go_wp2_with fail
      go_meet
      exact ⟨rfl, rfl⟩
    · go_wp2_with fail
      go_meet
      exact ⟨rfl, rfl⟩
  case rest =>
    obtain ⟨rfl, hwc⟩ := hcut
    have hwc' := hwc.symm
    subst hwc'
    clear hcases
    obtain ⟨bx, hbx⟩ : ∃ bx, bx = boxL := ⟨_, rfl⟩
    obtain ⟨bk, hbk⟩ : ∃ bk, bk = backL := ⟨_, rfl⟩
    have Hbe := Lib.hid (And.intro hbx hbk)
    have hbxl : bx.length = 256 := by rw [hbx]; exact boxL_len
    have hbkl : bk.length = 256 := by rw [hbk]; exact backL_len
    have hBx := boxes_any w1
    rw [← hbx, ← hbk] at hBx
    have HBx := Lib.hid hBx
    clear hbx hbk hBx
    go_upto_region 4 with fail
    go_wp2_with fail
    refine HBx.out.mono ?_
    rintro e w2 ⟨rfl, hb2⟩
    have HK2 := Lib.hid (HK.out.below hb2 HK.out.lt)
    have HR2 := Lib.hid (HR.out.below hb2 HR.out.lt)
    have hn2 := nu_trans Hal.out hb2
    clear hb2 HK HR Hal
    have hal := nu_alloc (nu_alloc (nu_refl w2) (.cells Try.zeroCells29 29)) (.cells Try.zeroCells29 29)
    have HX := Lib.hid ((Blk.made w2 29 Try.zeroCells29).alloc (.cells Try.zeroCells29 29))
    have HY := Lib.hid (Blk.made1 w2 (.cells Try.zeroCells29 29) 29 Try.zeroCells29)
    have Hsz := Lib.hid (show ∀ xs : List Nat, xs.length = 256 → (xs.map vb).length = (Try.zeroCells29).size from fun xs h => by rw [rzero_256, List.length_map, List.size_toArray, List.length_map, List.length_replicate, h])
    have HX3 := Lib.hid (Blk.fill HX.out (bx.map vb) (Hsz.out _ hbxl))
    have HY3 := Lib.hid (HY.out.farCells (bx.map vb) (show w2.heap.size + 1 ≠ w2.heap.size by omega) 0)
    have HX4 := Lib.hid (HX3.out.farCells (bk.map vb) (show w2.heap.size ≠ w2.heap.size + 1 by omega) 0)
    have HY4 := Lib.hid (Blk.fill HY3.out (bk.map vb) (Hsz.out _ hbkl))
    have Hn4 := Lib.hid (nu_fill (bk.map vb) (g := w2.heap.size + 1) (by omega) 0 _ (nu_fill (bx.map vb) (g := w2.heap.size) (Nat.le_refl _) 0 _ hal))
    clear hal
    go_upto_region 5 with (first | (refine wpList_store_blk rfl 29 (.tmp 5) (.tmp 24) rfl w2.heap.size (bx.map vb) rfl rfl 29 Try.zeroCells29 HX.out (Hsz.out _ hbxl) (size_256 hbxl) (vb_one _) ?_) | (refine wpList_store_blk rfl 29 (.tmp 6) (.tmp 25) rfl (w2.heap.size + 1) (bk.map vb) rfl rfl 29 Try.zeroCells29 HY3.out (Hsz.out _ hbkl) (size_256 hbkl) (vb_one _) ?_))
    change Code.wp _ _ _ _ ((((w2.alloc (.cells Try.zeroCells29 29)).alloc (.cells Try.zeroCells29 29)).setCells w2.heap.size 0 (bx.map vb)).setCells (w2.heap.size + 1) 0 (bk.map vb))
    clear HX HY HX3 HY3
    generalize (((w2.alloc (.cells Try.zeroCells29 29)).alloc (.cells Try.zeroCells29 29)).setCells w2.heap.size 0 (bx.map vb)).setCells (w2.heap.size + 1) 0 (bk.map vb) = w4 at *
    have HKX := Lib.hid (show KK ≠ w2.heap.size ∧ KK ≠ w2.heap.size + 1 ∧ KK < w2.heap.size ∧ KR < w2.heap.size from by have h1 := HK2.out.lt; have h2 := HR2.out.lt; omega)
    have HK4 := Lib.hid (HK2.out.below Hn4.out HK2.out.lt)
    have HR4 := Lib.hid (HR2.out.below Hn4.out HR2.out.lt)
    have Hnn4 := Lib.hid (nu_trans hn2 Hn4.out)
    clear HK2 HR2 hn2 Hn4
    obtain ⟨Y, hY⟩ : ∃ Y, Y = w2.heap.size + 1 := ⟨_, rfl⟩
    obtain ⟨X, hX⟩ : ∃ X, X = w2.heap.size := ⟨_, rfl⟩
    rw [← hY] at HY4 HKX
    rw [← hX] at HX4 HKX
    rw [← hY, ← hX]
    clear hX hY
    have HK5 := Lib.hid (show Blk (w4.setCells KK 1 (bx.map vb)) KK 31 ([Value.slice none 0 0] ++ bx.map vb ++ (List.replicate 256 0).map vb).toArray from by rw [Hbe.out.1]; exact key_box HK4.out)
    have HX5 := Lib.hid (HX4.out.farCells (bx.map vb) (Ne.symm HKX.out.1) 1)
    have HY5 := Lib.hid (HY4.out.farCells (bx.map vb) (Ne.symm HKX.out.2.1) 1)
    have HR5 := Lib.hid (HR4.out.farCells (bx.map vb) Ho.out.2.2 1)
    have Hn5 := Lib.hid (nu_fill (bx.map vb) (g := KK) Ho.out.1 1 _ Hnn4.out)
    go_upto_region 6 with (first | (refine wpList_run _ (by rfl) (e256_load HX4.out hbxl (.tmp 5) rfl rfl) ?_) | (refine wpList_store_in rfl 29 (.tmp 27) (.tmp 26) rfl KK 1 (bx.map vb) rfl rfl 31 keyZ.toArray HK4.out (by rw [List.length_map, hbxl, List.size_toArray, keyZ_len]; omega) (size_256 hbxl) (vb_one _) ?_))
    change Code.wp _ _ _ _ (w4.setCells KK 1 (bx.map vb))
    clear HK4 HX4 HY4 HR4 Hnn4
    generalize w4.setCells KK 1 (bx.map vb) = w5 at *
    have HK6 := Lib.hid (show Blk (w5.setCells KK 257 (bk.map vb)) KK 31 (rkeyL (.slice none 0 0)).toArray from by have h := HK5.out; rw [Hbe.out.1] at h; rw [Hbe.out.2]; exact key_back h)
    have HX6 := Lib.hid (HX5.out.farCells (bk.map vb) (Ne.symm HKX.out.1) 257)
    have HR6 := Lib.hid (HR5.out.farCells (bk.map vb) Ho.out.2.2 257)
    have Hn6 := Lib.hid (nu_fill (bk.map vb) (g := KK) Ho.out.1 257 _ Hn5.out)
    have Hks := Lib.hid (show ([Value.slice none 0 0] ++ bx.map vb ++ (List.replicate 256 0).map vb).length = 513 by rw [List.length_append, List.length_append, List.length_map, List.length_map, hbxl, List.length_replicate]; rfl)
    go_upto_region 7 with (first | (refine wpList_run _ (by rfl) (e256_load HY5.out hbkl (.tmp 6) rfl rfl) ?_) | (refine wpList_store_in rfl 29 (.tmp 29) (.tmp 28) rfl KK 257 (bk.map vb) rfl rfl 31 _ HK5.out (by rw [List.length_map, hbkl, List.size_toArray, Hks.out]; omega) (size_256 hbkl) (vb_one _) ?_))
    change Code.wp _ _ _ _ (w5.setCells KK 257 (bk.map vb))
    clear HK5 HX5 HY5 HR5 Hn5 Hks
    generalize w5.setCells KK 257 (bk.map vb) = w6 at *
    obtain ⟨B0, hB0⟩ : ∃ B0, B0 = w6.heap.size := ⟨_, rfl⟩
    have HN := Lib.hid (show RK w KK KR X B0 (words key 0) (.slice none 0 0) w6 from ⟨HK6.out, HR6.out, by have h := HX6.out; rw [Hbe.out.1] at h; exact h, World.ownsRow_nil _ _ _ _, Hn6.out, by omega, ⟨Ho.out.1, by rw [hB0]; exact HK6.out.lt, Ho.out.2.1, by rw [hB0]; exact HR6.out.lt, by rw [hB0]; exact HX6.out.lt, Ho.out.2.2, Ne.symm HKX.out.1⟩⟩)
    clear hB0 HK6 HX6 HR6 Hn6 HKX Ho
    go_wp2_with fail
    clear hq
    go_loopw [8] (fun i wr => ∃ (k : Nat) (v : Value), k ≤ n ∧ i = .int .i64 k ∧ RK w KK KR X B0 (words key k) v wr) (fun i _ => n - (intOf i).toNat)
    case atStart => exact ⟨0, _, by omega, rfl, HN.out⟩
    case round =>
      clear HN
      obtain ⟨k, v, hk, rfl, hN⟩ := hrel
      have HN := Lib.hid hN
      clear hN
      by_cases hlt : k < n
      · have hki : (k : Int) < (n : Int) := by omega
        have e0 : ∀ j, j < 4 → ∃ x : Nat, x < 256 ∧ key[4 * k + j]? = some x ∧ key.getD (4 * k + j) 0 = x := fun j hj => by
          have hlt : 4 * k + j < key.length := by rw [Hkl.out]; have := HL.out; omega
          have h1 := List.getElem?_eq_getElem hlt
          exact ⟨key[4 * k + j], Hkx.out _ (List.getElem_mem hlt), h1, by rw [List.getD_eq_getElem?_getD, h1]; rfl⟩
        obtain ⟨x0, hx0, ex0, ey0⟩ := e0 0 (by omega)
        obtain ⟨x1, hx1, ex1, ey1⟩ := e0 1 (by omega)
        obtain ⟨x2, hx2, ex2, ey2⟩ := e0 2 (by omega)
        obtain ⟨x3, hx3, ex3, ey3⟩ := e0 3 (by omega)
        obtain ⟨y, hy⟩ : ∃ y, y = wN x0 x1 x2 x3 := ⟨_, rfl⟩
        have Hw := Lib.hid (show words key (k + 1) = words key k ++ [y] by rw [words, show 4 * k = 4 * k + 0 from rfl, ey0, ey1, ey2, ey3, ← hy])
        have hwb := wb_wN x0 x1 x2 x3 hx0 hx1 hx2 hx3
        rw [← hy] at hwb
        have Hel := Lib.hid (show (elL y).map vb = [.int .u8 (x0 : Int), .int .u8 (x1 : Int), .int .u8 (x2 : Int), .int .u8 (x3 : Int)] by unfold elL; rw [hwb.1, hwb.2.1, hwb.2.2.1, hwb.2.2.2]; rfl)
        obtain ⟨n0, hn0⟩ : ∃ q, q = 4 * k := ⟨_, rfl⟩
        have wp0 : IntKind.i64.wrap (4 * (k : Int)) = (n0 : Int) := by rw [IntKind.wrap_i64]; omega
        have hi0 : (n0 : Int) < (L : Int) := by have := HL.out; omega
        have Hx0 := Lib.hid (show key[n0]? = some x0 by rw [hn0]; exact ex0)
        obtain ⟨n1, hn1⟩ : ∃ q, q = n0 + 1 := ⟨_, rfl⟩
        have wp1 : IntKind.i64.wrap ((n0 : Int) + 1) = (n1 : Int) := by rw [IntKind.wrap_i64]; omega
        have hi1 : (n1 : Int) < (L : Int) := by have := HL.out; omega
        have Hx1 := Lib.hid (show key[n1]? = some x1 by rw [hn1, hn0]; exact ex1)
        obtain ⟨n2, hn2⟩ : ∃ q, q = n0 + 2 := ⟨_, rfl⟩
        have wp2 : IntKind.i64.wrap ((n0 : Int) + 2) = (n2 : Int) := by rw [IntKind.wrap_i64]; omega
        have hi2 : (n2 : Int) < (L : Int) := by have := HL.out; omega
        have Hx2 := Lib.hid (show key[n2]? = some x2 by rw [hn2, hn0]; exact ex2)
        obtain ⟨n3, hn3⟩ : ∃ q, q = n0 + 3 := ⟨_, rfl⟩
        have wp3 : IntKind.i64.wrap ((n0 : Int) + 3) = (n3 : Int) := by rw [IntKind.wrap_i64]; omega
        have hi3 : (n3 : Int) < (L : Int) := by have := HL.out; omega
        have Hx3 := Lib.hid (show key[n3]? = some x3 by rw [hn3, hn0]; exact ex3)
        clear e0 ex0 ex1 ex2 ex3 ey0 ey1 ey2 ey3 hwb hy hn0 hn1 hn2 hn3 hx0 hx1 hx2 hx3
        go_upto_region 11 with fail
        refine wp_region_held_drew (S := fun W => Below w.heap.size w W) (by kernel_rfl) (nu_drew HN.out.nu) (fun hHeld => ?_)
        dsimp only [Array.replicate, List.replicate, List.size_toArray, List.length_cons, List.length_nil, Nat.reduceAdd] at hHeld ⊢
        have HN0 := Lib.hid (HN.out.under (nu_drew (nu_refl wr)))
        clear HN
        generalize wr.drew = u0 at *
        refine take_l (i := 0) (v := ?_) rfl (by kernel_rfl) (by kernel_rfl) (by kernel_rfl) (fun _ _ _ h => h) (Or.inl ⟨by rfl, ?_⟩) (by assumption) ?_
        case refine_2 => (intro _ _; go_simp; all_goals with_reducible rfl)
        simp only [Act.put, List.setIfInBounds_toArray, List.set_cons_zero, List.set_cons_succ]
        refine take_l (i := 2) (v := ?_) rfl (by kernel_rfl) (by kernel_rfl) (by kernel_rfl) (fun _ _ _ h => h) (Or.inl ⟨by rfl, ?_⟩) (by assumption) ?_
        case refine_2 => (intro _ _; go_simp; all_goals with_reducible rfl)
        simp only [Act.put, List.setIfInBounds_toArray, List.set_cons_zero, List.set_cons_succ]
        refine take_l (i := 3) (v := ?_) rfl (by kernel_rfl) (by kernel_rfl) (by kernel_rfl) (fun _ _ _ h => h) (Or.inl ⟨by rfl, ?_⟩) (by assumption) ?_
        case refine_2 => (intro _ _; go_simp; all_goals with_reducible rfl)
        simp only [Act.put, List.setIfInBounds_toArray, List.set_cons_zero, List.set_cons_succ]
        refine take_l (i := 4) (v := ?_) rfl (by kernel_rfl) (by kernel_rfl) (by kernel_rfl) (fun _ _ _ h => h) (Or.inl ⟨by rfl, ?_⟩) (by assumption) ?_
        case refine_2 => (intro _ _; go_simp; all_goals with_reducible rfl)
        simp only [Act.put, List.setIfInBounds_toArray, List.set_cons_zero, List.set_cons_succ]
        refine take_l (i := 5) (v := ?_) rfl (by kernel_rfl) (by kernel_rfl) (by kernel_rfl) (fun _ _ _ h => h) (Or.inl ⟨by rfl, ?_⟩) (by assumption) ?_
        case refine_2 => (intro _ _; go_simp; all_goals with_reducible rfl)
        simp only [Act.put, List.setIfInBounds_toArray, List.set_cons_zero, List.set_cons_succ]
        refine take_l (i := 6) rfl (by kernel_rfl) (by kernel_rfl) (by kernel_rfl) (fun _ _ _ h => h) (Or.inl ⟨by rfl, fun W hS => e16_byte ((hS.cell (p := ⟨b1, o1 + n0, none⟩) hbl).trans (Hcell.out n0 x0 Hx0.out)) (.tmp 43) rfl rfl⟩) (by assumption) ?_
        simp only [Act.put, List.setIfInBounds_toArray, List.set_cons_zero, List.set_cons_succ]
        refine take_l (i := 7) (v := ?_) rfl (by kernel_rfl) (by kernel_rfl) (by kernel_rfl) (fun _ _ _ h => h) (Or.inl ⟨by rfl, ?_⟩) (by assumption) ?_
        case refine_2 => (intro _ _; go_simp; all_goals with_reducible rfl)
        simp only [Act.put, List.setIfInBounds_toArray, List.set_cons_zero, List.set_cons_succ]
        refine take_l (i := 8) (v := ?_) rfl (by kernel_rfl) (by kernel_rfl) (by kernel_rfl) (fun _ _ _ h => h) (Or.inl ⟨by rfl, ?_⟩) (by assumption) ?_
        case refine_2 => (intro _ _; go_simp; all_goals with_reducible rfl)
        simp only [Act.put, List.setIfInBounds_toArray, List.set_cons_zero, List.set_cons_succ]
        refine take_l (i := 9) (v := ?_) rfl (by kernel_rfl) (by kernel_rfl) (by kernel_rfl) (fun _ _ _ h => h) (Or.inl ⟨by rfl, ?_⟩) (by assumption) ?_
        case refine_2 => (intro _ _; go_simp; all_goals with_reducible rfl)
        simp only [Act.put, List.setIfInBounds_toArray, List.set_cons_zero, List.set_cons_succ]
        refine take_l (i := 10) (v := ?_) rfl (by kernel_rfl) (by kernel_rfl) (by kernel_rfl) (fun _ _ _ h => h) (Or.inl ⟨by rfl, ?_⟩) (by assumption) ?_
        case refine_2 => (intro _ _; go_simp; all_goals with_reducible rfl)
        simp only [Act.put, List.setIfInBounds_toArray, List.set_cons_zero, List.set_cons_succ]
        refine take_l (i := 11) (v := ?_) rfl (by kernel_rfl) (by kernel_rfl) (by kernel_rfl) (fun _ _ _ h => h) (Or.inl ⟨by rfl, ?_⟩) (by assumption) ?_
        case refine_2 => (intro _ _; go_simp; all_goals with_reducible rfl)
        simp only [Act.put, List.setIfInBounds_toArray, List.set_cons_zero, List.set_cons_succ]
        refine take_l (i := 12) rfl (by kernel_rfl) (by kernel_rfl) (by kernel_rfl) (fun _ _ _ h => h) (Or.inl ⟨by rfl, fun W hS => e16_byte ((hS.cell (p := ⟨b1, o1 + n1, none⟩) hbl).trans (Hcell.out n1 x1 Hx1.out)) (.tmp 49) rfl rfl⟩) (by assumption) ?_
        simp only [Act.put, List.setIfInBounds_toArray, List.set_cons_zero, List.set_cons_succ]
        refine take_l (i := 13) (v := ?_) rfl (by kernel_rfl) (by kernel_rfl) (by kernel_rfl) (fun _ _ _ h => h) (Or.inl ⟨by rfl, ?_⟩) (by assumption) ?_
        case refine_2 => (intro _ _; go_simp; all_goals with_reducible rfl)
        simp only [Act.put, List.setIfInBounds_toArray, List.set_cons_zero, List.set_cons_succ]
        refine take_l (i := 14) (v := ?_) rfl (by kernel_rfl) (by kernel_rfl) (by kernel_rfl) (fun _ _ _ h => h) (Or.inl ⟨by rfl, ?_⟩) (by assumption) ?_
        case refine_2 => (intro _ _; go_simp; all_goals with_reducible rfl)
        simp only [Act.put, List.setIfInBounds_toArray, List.set_cons_zero, List.set_cons_succ]
        refine take_l (i := 15) (v := ?_) rfl (by kernel_rfl) (by kernel_rfl) (by kernel_rfl) (fun _ _ _ h => h) (Or.inl ⟨by rfl, ?_⟩) (by assumption) ?_
        case refine_2 => (intro _ _; go_simp; all_goals with_reducible rfl)
        simp only [Act.put, List.setIfInBounds_toArray, List.set_cons_zero, List.set_cons_succ]
        refine take_l (i := 16) (v := ?_) rfl (by kernel_rfl) (by kernel_rfl) (by kernel_rfl) (fun _ _ _ h => h) (Or.inl ⟨by rfl, ?_⟩) (by assumption) ?_
        case refine_2 => (intro _ _; go_simp; all_goals with_reducible rfl)
        simp only [Act.put, List.setIfInBounds_toArray, List.set_cons_zero, List.set_cons_succ]
        refine take_l (i := 17) (v := ?_) rfl (by kernel_rfl) (by kernel_rfl) (by kernel_rfl) (fun _ _ _ h => h) (Or.inl ⟨by rfl, ?_⟩) (by assumption) ?_
        case refine_2 => (intro _ _; go_simp; all_goals with_reducible rfl)
        simp only [Act.put, List.setIfInBounds_toArray, List.set_cons_zero, List.set_cons_succ]
        refine take_l (i := 18) rfl (by kernel_rfl) (by kernel_rfl) (by kernel_rfl) (fun _ _ _ h => h) (Or.inl ⟨by rfl, fun W hS => e16_byte ((hS.cell (p := ⟨b1, o1 + n2, none⟩) hbl).trans (Hcell.out n2 x2 Hx2.out)) (.tmp 55) rfl rfl⟩) (by assumption) ?_
        simp only [Act.put, List.setIfInBounds_toArray, List.set_cons_zero, List.set_cons_succ]
        refine take_l (i := 19) (v := ?_) rfl (by kernel_rfl) (by kernel_rfl) (by kernel_rfl) (fun _ _ _ h => h) (Or.inl ⟨by rfl, ?_⟩) (by assumption) ?_
        case refine_2 => (intro _ _; go_simp; all_goals with_reducible rfl)
        simp only [Act.put, List.setIfInBounds_toArray, List.set_cons_zero, List.set_cons_succ]
        refine take_l (i := 20) (v := ?_) rfl (by kernel_rfl) (by kernel_rfl) (by kernel_rfl) (fun _ _ _ h => h) (Or.inl ⟨by rfl, ?_⟩) (by assumption) ?_
        case refine_2 => (intro _ _; go_simp; all_goals with_reducible rfl)
        simp only [Act.put, List.setIfInBounds_toArray, List.set_cons_zero, List.set_cons_succ]
        refine take_l (i := 21) (v := ?_) rfl (by kernel_rfl) (by kernel_rfl) (by kernel_rfl) (fun _ _ _ h => h) (Or.inl ⟨by rfl, ?_⟩) (by assumption) ?_
        case refine_2 => (intro _ _; go_simp; all_goals with_reducible rfl)
        simp only [Act.put, List.setIfInBounds_toArray, List.set_cons_zero, List.set_cons_succ]
        refine take_l (i := 22) (v := ?_) rfl (by kernel_rfl) (by kernel_rfl) (by kernel_rfl) (fun _ _ _ h => h) (Or.inl ⟨by rfl, ?_⟩) (by assumption) ?_
        case refine_2 => (intro _ _; go_simp; all_goals with_reducible rfl)
        simp only [Act.put, List.setIfInBounds_toArray, List.set_cons_zero, List.set_cons_succ]
        refine take_l (i := 23) (v := ?_) rfl (by kernel_rfl) (by kernel_rfl) (by kernel_rfl) (fun _ _ _ h => h) (Or.inl ⟨by rfl, ?_⟩) (by assumption) ?_
        case refine_2 => (intro _ _; go_simp; all_goals with_reducible rfl)
        simp only [Act.put, List.setIfInBounds_toArray, List.set_cons_zero, List.set_cons_succ]
        refine take_l (i := 24) rfl (by kernel_rfl) (by kernel_rfl) (by kernel_rfl) (fun _ _ _ h => h) (Or.inl ⟨by rfl, fun W hS => e16_byte ((hS.cell (p := ⟨b1, o1 + n3, none⟩) hbl).trans (Hcell.out n3 x3 Hx3.out)) (.tmp 61) rfl rfl⟩) (by assumption) ?_
        simp only [Act.put, List.setIfInBounds_toArray, List.set_cons_zero, List.set_cons_succ]
        refine take_l (i := 25) (v := ?_) rfl (by kernel_rfl) (by kernel_rfl) (by kernel_rfl) (fun _ _ _ h => h) (Or.inl ⟨by rfl, ?_⟩) (by assumption) ?_
        case refine_2 => (intro _ _; go_simp; all_goals with_reducible rfl)
        simp only [Act.put, List.setIfInBounds_toArray, List.set_cons_zero, List.set_cons_succ]
        clear wp0 wp1 wp2 wp3 hi0 hi1 hi2 hi3 hHeld
        refine wpAnyH_ready (rs := [1, 26]) (by kernel_rfl) (by simp) ?_
        refine cons_l rfl (fun K hK => ?_) (cons_l rfl (fun K hK => ?_) AllReadyH.nil)
        · have c0 : u0.cell? ⟨KK, 0, none⟩ = some v := HN0.out.c.at 0 _ (rkeyL_0 v)
          go_simp
          go_wp2_with fail
          refine hK.out _ _ HN0.out.nu (fun hHeld => ?_)
          clear hK K c0 hHeld
          simp only [Act.put, List.setIfInBounds_toArray, List.set_cons_zero, List.set_cons_succ]
          refine wpAnyH_ready (rs := [26]) (by kernel_rfl) (by simp) ?_
          refine cons_l rfl (fun K hK => ?_) AllReadyH.nil
          have hal := nu_alloc (nu_refl u0) (.cells #[.int .u8 (x0 : Int), .int .u8 (x1 : Int), .int .u8 (x2 : Int), .int .u8 (x3 : Int)] 58)
          have HY := Lib.hid (Blk.made u0 58 #[.int .u8 (x0 : Int), .int .u8 (x1 : Int), .int .u8 (x2 : Int), .int .u8 (x3 : Int)])
          have HN1 := Lib.hid (HN0.out.under hal)
          clear hal HN0
          go_simp
          go_wp2_with fail
          generalize u0.heap.size = jj at *
          generalize u0.alloc (.cells #[.int .u8 (x0 : Int), .int .u8 (x1 : Int), .int .u8 (x2 : Int), .int .u8 (x3 : Int)] 58) = u1 at *
          refine hK.out _ _ HN1.out.nu (fun hHeld => ?_)
          clear hK K hHeld
          simp only [Act.put, List.setIfInBounds_toArray, List.set_cons_zero, List.set_cons_succ]
          refine wpAnyH_ready (rs := [27]) (by kernel_rfl) (by simp) ?_
          refine cons_l rfl (fun K hK => ?_) AllReadyH.nil
          refine step_append_own rfl (.tmp 39) (.tmp 64) 28 rfl B0 58 i0 (.agg (z4.map vb).toArray) 4 4 Try.underlying28 Hi.out.1 Hi.out.2.1 Hi.out.2.2.1 Hi.out.2.2.2 rfl (by decide) v (words key k).length ((flat (words key k)).map vb) rfl HN1.out.own (some ⟨jj, 0, none⟩) 1 1 [.int .u8 (x0 : Int), .int .u8 (x1 : Int), .int .u8 (x2 : Int), .int .u8 (x3 : Int)] rfl (fun h => by cases h) rfl (fun ad had i q hq => by injection had with had; subst had; rw [Addr.add_lit, Nat.zero_add]; exact HY.out.at i q (by simpa using hq)) (fun q hq => by simp only [List.mem_cons, List.not_mem_nil, or_false] at hq; rcases hq with rfl | rfl | rfl | rfl <;> rfl) (by rw [words_len]; unfold maxLen; omega) (by rw [words_len]; omega) HN1.out.base ?_
          intro v2 u9 hown hgr _
          obtain ⟨m2, q2, c2, hv2⟩ := own_slice hown (by omega)
          subst hv2
          rw [← Hel.out] at hown
          obtain ⟨hP1, hP2, hP3⟩ := HN1.out.push (y := y) hown hgr
          rw [← Hw.out] at hP1
          have HP := Lib.hid hP1
          have c0 := hP2.at 0 _ (rkeyL_0 v)
          have f0 := hP2.free 0
          clear hown hgr hP1 hP2 HN1 HY
          refine hK.out _ _ hP3 (fun hHeld => ?_)
          clear hK K hP3
          simp only [Act.put, List.setIfInBounds_toArray, List.set_cons_zero, List.set_cons_succ]
          refine take_l (i := 28) (v := ?_) rfl (by kernel_rfl) (by kernel_rfl) (by kernel_rfl) (fun _ _ _ h => h) (Or.inl ⟨by rfl, ?_⟩) (by assumption) ?_
          case refine_2 => (intro _ _; go_simp; all_goals with_reducible rfl)
          simp only [Act.put, List.setIfInBounds_toArray, List.set_cons_zero, List.set_cons_succ]
          clear hHeld
          refine wpAnyH_ready (rs := [29]) (by kernel_rfl) (by simp) ?_
          refine cons_l rfl (fun K hK => ?_) AllReadyH.nil
          go_simp
          go_wp2_with fail
          clear c0 f0
          generalize u9.setCell ⟨KK, 0, none⟩ (.slice (some ⟨m2, 0, none⟩) q2 c2) = u10 at *
          refine hK.out _ _ HP.out.nu (fun hHeld => ?_)
          clear hK K hHeld
          simp only [Act.put, List.setIfInBounds_toArray, List.set_cons_zero, List.set_cons_succ]
          refine wpAnyH_done (by kernel_rfl) ?_ _
          go_wp2_with fail
          go_roundw
          case rel => first | exact ⟨k + 1, _, by omega, by go_num, HP.out⟩ | ((repeat apply Exists.intro); exact ⟨⟨k + 1, _, by omega, by go_num, HP.out⟩, rfl⟩)
          case measure => simp [intOf]; omega
        · have hal := nu_alloc (nu_refl u0) (.cells #[.int .u8 (x0 : Int), .int .u8 (x1 : Int), .int .u8 (x2 : Int), .int .u8 (x3 : Int)] 58)
          have HY := Lib.hid (Blk.made u0 58 #[.int .u8 (x0 : Int), .int .u8 (x1 : Int), .int .u8 (x2 : Int), .int .u8 (x3 : Int)])
          have HN1 := Lib.hid (HN0.out.under hal)
          clear hal HN0
          go_simp
          go_wp2_with fail
          generalize u0.heap.size = jj at *
          generalize u0.alloc (.cells #[.int .u8 (x0 : Int), .int .u8 (x1 : Int), .int .u8 (x2 : Int), .int .u8 (x3 : Int)] 58) = u1 at *
          refine hK.out _ _ HN1.out.nu (fun hHeld => ?_)
          clear hK K hHeld
          simp only [Act.put, List.setIfInBounds_toArray, List.set_cons_zero, List.set_cons_succ]
          refine wpAnyH_ready (rs := [1]) (by kernel_rfl) (by simp) ?_
          refine cons_l rfl (fun K hK => ?_) AllReadyH.nil
          have c0 : u1.cell? ⟨KK, 0, none⟩ = some v := HN1.out.c.at 0 _ (rkeyL_0 v)
          go_simp
          go_wp2_with fail
          refine hK.out _ _ HN1.out.nu (fun hHeld => ?_)
          clear hK K c0 hHeld
          simp only [Act.put, List.setIfInBounds_toArray, List.set_cons_zero, List.set_cons_succ]
          refine wpAnyH_ready (rs := [27]) (by kernel_rfl) (by simp) ?_
          refine cons_l rfl (fun K hK => ?_) AllReadyH.nil
          refine step_append_own rfl (.tmp 39) (.tmp 64) 28 rfl B0 58 i0 (.agg (z4.map vb).toArray) 4 4 Try.underlying28 Hi.out.1 Hi.out.2.1 Hi.out.2.2.1 Hi.out.2.2.2 rfl (by decide) v (words key k).length ((flat (words key k)).map vb) rfl HN1.out.own (some ⟨jj, 0, none⟩) 1 1 [.int .u8 (x0 : Int), .int .u8 (x1 : Int), .int .u8 (x2 : Int), .int .u8 (x3 : Int)] rfl (fun h => by cases h) rfl (fun ad had i q hq => by injection had with had; subst had; rw [Addr.add_lit, Nat.zero_add]; exact HY.out.at i q (by simpa using hq)) (fun q hq => by simp only [List.mem_cons, List.not_mem_nil, or_false] at hq; rcases hq with rfl | rfl | rfl | rfl <;> rfl) (by rw [words_len]; unfold maxLen; omega) (by rw [words_len]; omega) HN1.out.base ?_
          intro v2 u9 hown hgr _
          obtain ⟨m2, q2, c2, hv2⟩ := own_slice hown (by omega)
          subst hv2
          rw [← Hel.out] at hown
          obtain ⟨hP1, hP2, hP3⟩ := HN1.out.push (y := y) hown hgr
          rw [← Hw.out] at hP1
          have HP := Lib.hid hP1
          have c0 := hP2.at 0 _ (rkeyL_0 v)
          have f0 := hP2.free 0
          clear hown hgr hP1 hP2 HN1 HY
          refine hK.out _ _ hP3 (fun hHeld => ?_)
          clear hK K hP3
          simp only [Act.put, List.setIfInBounds_toArray, List.set_cons_zero, List.set_cons_succ]
          refine take_l (i := 28) (v := ?_) rfl (by kernel_rfl) (by kernel_rfl) (by kernel_rfl) (fun _ _ _ h => h) (Or.inl ⟨by rfl, ?_⟩) (by assumption) ?_
          case refine_2 => (intro _ _; go_simp; all_goals with_reducible rfl)
          simp only [Act.put, List.setIfInBounds_toArray, List.set_cons_zero, List.set_cons_succ]
          clear hHeld
          refine wpAnyH_ready (rs := [29]) (by kernel_rfl) (by simp) ?_
          refine cons_l rfl (fun K hK => ?_) AllReadyH.nil
          go_simp
          go_wp2_with fail
          clear c0 f0
          generalize u9.setCell ⟨KK, 0, none⟩ (.slice (some ⟨m2, 0, none⟩) q2 c2) = u10 at *
          refine hK.out _ _ HP.out.nu (fun hHeld => ?_)
          clear hK K hHeld
          simp only [Act.put, List.setIfInBounds_toArray, List.set_cons_zero, List.set_cons_succ]
          refine wpAnyH_done (by kernel_rfl) ?_ _
          go_wp2_with fail
          go_roundw
          case rel => first | exact ⟨k + 1, _, by omega, by go_num, HP.out⟩ | ((repeat apply Exists.intro); exact ⟨⟨k + 1, _, by omega, by go_num, HP.out⟩, rfl⟩)
          case measure => simp [intOf]; omega
      · obtain rfl : k = n := by omega
        go_wp2_with fail
        go_loopw [9] (fun i wr => ∃ (d : Nat) (v : Value), d ≤ 4 * (k + 7) - k ∧ i = .int .i64 ((k + d : Nat) : Int) ∧ RK w KK KR X B0 (grow k d (words key k)) v wr) (fun i _ => 4 * (k + 7) - (intOf i).toNat)
        case atStart => exact ⟨0, _, by omega, rfl, HN.out⟩
        case round =>
          clear HN
          obtain ⟨d, v, hd, rfl, hN⟩ := hrel
          have hWl : (grow k d (words key k)).length = k + d := by rw [grow_len, words_len]
          have hWs := grow_small k d (words key k) (words_small Hkx.out k)
          have HWn := Lib.hid (grow_succ k d (words key k))
          obtain ⟨W, hW⟩ : ∃ W, grow k d (words key k) = W := ⟨_, rfl⟩
          rw [hW] at hN hWl hWs HWn
          obtain ⟨j, hj⟩ : ∃ j, j = k + d := ⟨_, rfl⟩
          rw [← hj] at hWl ⊢
          have hown := hN.own
          rw [hWl] at hown
          obtain ⟨m, c, hv, hBm, hml⟩ := World.ownsRow.form hown (by omega)
          subst hv
          have HN := Lib.hid hN
          have HWs := Lib.hid hWs
          have HWl := Lib.hid hWl
          have HW := Lib.hid hW
          have HO := Lib.hid hown
          obtain ⟨p, hp⟩ : ∃ p, j = p + 1 := ⟨j - 1, by omega⟩
          have hjp : (j : Int) - 1 = (p : Int) := by omega
          have hpj : (p : Int) < (j : Int) := by omega
          obtain ⟨q, hq'⟩ : ∃ q, j = q + k := ⟨j - k, by omega⟩
          have Hj := Lib.hid (And.intro hj (And.intro hp (And.intro hq' hd)))
          have hj60 : j ≤ 60 := by omega
          by_cases hlt : j < 4 * (k + 7)
          · have hji : (j : Int) < 4 * ((k : Int) + 7) := by omega
            have Hlt := Lib.hid hlt
            clear hN hWl hWs hW hj hown hp hq' hd hlt hBm hml
            obtain ⟨t, ht⟩ : ∃ t, W.getD p 0 = t := ⟨_, rfl⟩
            have Ht := Lib.hid ht
            have hrg := row_range HO.out HWl.out p (by omega)
            rw [ht] at hrg
            have HRg := Lib.hid hrg
            have c0 : wr.cell? ⟨KK, 0, none⟩ = some (.slice (some ⟨m, 0, none⟩) j c) := HN.out.c.at 0 _ (rkeyL_0 _)
            have HTm := Lib.hid (Blk.made wr 58 (z4.map vb).toArray)
            have HT1 := Lib.hid (Blk.fill HTm.out ((elL t).map vb) rfl)
            have hal := nu_fill (a := wr) ((elL t).map vb) (g := wr.heap.size) (Nat.le_refl _) 0 _ (nu_alloc (nu_refl wr) (.cells (z4.map vb).toArray 58))
            have Hal := Lib.hid hal
            have HN1 := Lib.hid (HN.out.under hal)
            clear ht hrg hal
            go_upto_region 16 with (first | (refine wpList_run _ (by rfl) (e4_load HRg.out rfl (.tmp 79) rfl rfl) ?_) | (refine wpList_store_blk rfl 58 (.tmp 10) (.tmp 80) rfl wr.heap.size ((elL t).map vb) rfl rfl 58 (z4.map vb).toArray HTm.out rfl (by kernel_rfl) (vb_one _) ?_))
            change Code.wp _ _ _ _ ((wr.alloc (.cells (z4.map vb).toArray 58)).setCells wr.heap.size 0 ((elL t).map vb))
            clear HTm HRg c0 hjp hpj
            generalize (wr.alloc (.cells (z4.map vb).toArray 58)).setCells wr.heap.size 0 ((elL t).map vb) = u1 at *
            obtain ⟨T, hT⟩ : ∃ T, T = wr.heap.size := ⟨_, rfl⟩
            rw [← hT] at HT1
            rw [← hT]
            have HTw := Lib.hid hT
            clear hT
            obtain ⟨Tn, hTn⟩ : ∃ Tn, Tn = turnOf k j t := ⟨_, rfl⟩
            have HTn := Lib.hid hTn
            clear hTn
            obtain ⟨r, hr⟩ : ∃ r, r = j % k := ⟨_, rfl⟩
            have em : (j : Int) % (k : Int) = (r : Int) := by rw [hr]; simp
            have Hr := Lib.hid hr
            clear hr
            go_upto_if 84 with fail
            go_cut [9] (fun s9 wx => s9 = .int .i64 (j : Int) ∧ RK w KK KR X B0 W (.slice (some ⟨m, 0, none⟩) j c) wx ∧ Blk wx T 58 ((elL Tn).map vb).toArray)
            case first =>
              obtain ⟨t0, ht0⟩ : ∃ x, x = wb t 0 := ⟨_, rfl⟩
              obtain ⟨t1, ht1⟩ : ∃ x, x = wb t 1 := ⟨_, rfl⟩
              obtain ⟨t2, ht2⟩ : ∃ x, x = wb t 2 := ⟨_, rfl⟩
              obtain ⟨t3, ht3⟩ : ∃ x, x = wb t 3 := ⟨_, rfl⟩
              have h0 : t0 < 256 := by rw [ht0]; exact wb_lt _ _
              have h1 : t1 < 256 := by rw [ht1]; exact wb_lt _ _
              have h2 : t2 < 256 := by rw [ht2]; exact wb_lt _ _
              have h3 : t3 < 256 := by rw [ht3]; exact wb_lt _ _
              have i0' : (t0 : Int) < 256 := by omega
              have i1 : (t1 : Int) < 256 := by omega
              have i2 : (t2 : Int) < 256 := by omega
              have i3 : (t3 : Int) < 256 := by omega
              have d0 : u1.cell? ⟨T, 0, none⟩ = some (.int .u8 (t0 : Int)) := by rw [ht0]; exact HT1.out.at 0 _ rfl
              have d1 : u1.cell? ⟨T, 1, none⟩ = some (.int .u8 (t1 : Int)) := by rw [ht1]; exact HT1.out.at 1 _ rfl
              have d2 : u1.cell? ⟨T, 2, none⟩ = some (.int .u8 (t2 : Int)) := by rw [ht2]; exact HT1.out.at 2 _ rfl
              have d3 : u1.cell? ⟨T, 3, none⟩ = some (.int .u8 (t3 : Int)) := by rw [ht3]; exact HT1.out.at 3 _ rfl
              obtain ⟨s0, hs0⟩ : ∃ x, x = sb t0 := ⟨_, rfl⟩
              obtain ⟨s1, hs1⟩ : ∃ x, x = sb t1 := ⟨_, rfl⟩
              obtain ⟨s2, hs2⟩ : ∃ x, x = sb t2 := ⟨_, rfl⟩
              obtain ⟨s3, hs3⟩ : ∃ x, x = sb t3 := ⟨_, rfl⟩
              have b0 : u1.cell? ⟨X, t0, none⟩ = some (.int .u8 (s0 : Int)) := by rw [hs0]; exact HN1.out.x.at t0 _ (arrg_at vb boxL t0 _ (boxL_at t0 h0))
              have b1' : u1.cell? ⟨X, t1, none⟩ = some (.int .u8 (s1 : Int)) := by rw [hs1]; exact HN1.out.x.at t1 _ (arrg_at vb boxL t1 _ (boxL_at t1 h1))
              have b2 : u1.cell? ⟨X, t2, none⟩ = some (.int .u8 (s2 : Int)) := by rw [hs2]; exact HN1.out.x.at t2 _ (arrg_at vb boxL t2 _ (boxL_at t2 h2))
              have b3 : u1.cell? ⟨X, t3, none⟩ = some (.int .u8 (s3 : Int)) := by rw [hs3]; exact HN1.out.x.at t3 _ (arrg_at vb boxL t3 _ (boxL_at t3 h3))
              have hs18 : s1 < 256 := by rw [hs1]; exact sb_lt _
              by_cases hr0 : r = 0
              · have hb : ((r : Int) == 0) = true := by rw [hr0]; rfl
                obtain ⟨Q, hQ⟩ : ∃ Q, Q = j / k := ⟨_, rfl⟩
                have hk0 : ¬ k = 0 := by omega
                have ekq : (j : Int) / (k : Int) = (Q : Int) := by rw [hQ]; simp
                have etq : Int.tdiv (j : Int) (k : Int) = (Q : Int) := by rw [Int.tdiv_eq_ediv_of_nonneg (by omega), ekq]
                have hQ1 : 1 ≤ Q := by rw [hQ]; exact (Nat.le_div_iff_mul_le (by omega)).2 (by have := Hj.out; omega)
                have hQ60 : Q ≤ 60 := by rw [hQ]; exact Nat.le_trans (Nat.div_le_self _ _) hj60
                have wq : IntKind.i64.wrap (Q : Int) = (Q : Int) := by rw [IntKind.wrap_i64]; omega
                obtain ⟨Q1, hQq⟩ : ∃ Q1, Q1 = Q - 1 := ⟨_, rfl⟩
                have wq1 : IntKind.i64.wrap ((Q : Int) - 1) = (Q1 : Int) := by rw [IntKind.wrap_i64]; omega
                obtain ⟨g, hg⟩ : ∃ g, g = gpow 2 Q1 := ⟨_, rfl⟩
                have hg8 : g < 256 := by rw [hg]; exact gpow_lt _ _
                obtain ⟨z, hz⟩ : ∃ z, z = s1 ^^^ g := ⟨_, rfl⟩
                have hxx := u8_xor_nat s1 g hs18 hg8
                rw [← hz] at hxx
                have HTe := Lib.hid (show [.int .u8 (z : Int), .int .u8 (s2 : Int), .int .u8 (s3 : Int), .int .u8 (s0 : Int)] = (elL Tn).map vb by
                  rw [HTn.out, turn_zero k j t (by rw [← Hr.out]; exact hr0), ← ht0, ← ht1, ← ht2, ← ht3, ← hs0, ← hs1, ← hs2, ← hs3, ← hQ, ← hQq, ← hg, ← hz]
                  rfl)
                have HPw := Lib.hid (show Calls Try.prog 27 #[.int .u8 2, .int .i64 (Q1 : Int)] u1.drew fun e w' => e = .returned (.int .u8 (g : Int)) ∧ w' = u1.drew from by
                  refine (refPower_any 2 (Q1 : Int) (by omega) (by omega) (by omega) u1.drew).mono ?_
                  intro e w' h
                  exact ⟨by rw [h.1, hg]; rfl, h.2.symm⟩)
                have HTd := Lib.hid HT1.out.drew
                have HTf := Lib.hid (Blk.fill HTd.out [.int .u8 (z : Int), .int .u8 (s2 : Int), .int .u8 (s3 : Int), .int .u8 (s0 : Int)] rfl)
                have HNf := Lib.hid (HN.out.under (nu_fill (a := wr) [.int .u8 (z : Int), .int .u8 (s2 : Int), .int .u8 (s3 : Int), .int .u8 (s0 : Int)] (g := T) (by rw [HTw.out]; exact Nat.le_refl _) 0 _ (nu_drew Hal.out)))
                clear h0 h1 h2 h3 ht0 ht1 ht2 ht3 hs0 hs1 hs2 hs3 hs18 hr0 hQ hQ1 hQ60 hQq hg hg8 hz
                go_upto_region 17 with fail
                go_still_tail 23, (by kernel_rfl)
                still_call HPw.out
                repeat still_step
                refine wpStill_nil ?_
                change wpList _ _ _ _ _ u1.drew
                clear d0 d1 d2 d3 b0 b1' b2 b3 HPw hxx ekq etq wq wq1
                go_wp2_with (refine wpList_store_blk rfl 58 (.tmp 10) (.tmp 107) rfl T [.int .u8 (z : Int), .int .u8 (s2 : Int), .int .u8 (s3 : Int), .int .u8 (s0 : Int)] rfl rfl 58 _ HTd.out rfl (by kernel_rfl) (fun q hq => by simp only [List.mem_cons, List.not_mem_nil, or_false] at hq; rcases hq with rfl | rfl | rfl | rfl <;> rfl) ?_)
                go_meet
                exact ⟨rfl, HNf.out, by rw [← HTe.out]; exact HTf.out⟩
              · have hb : ((r : Int) == 0) = false := by rw [beq_eq_false_iff_ne]; omega
                obtain ⟨r8, hr8⟩ : ∃ r8, r8 = j % 8 := ⟨_, rfl⟩
                have em8 : (j : Int) % 8 = (r8 : Int) := by omega
                by_cases h8 : k = 8
                · have hb8 : ((k : Int) == 8) = true := by rw [h8]; rfl
                  by_cases h4 : r8 = 4
                  · have hb4 : ((r8 : Int) == 4) = true := by rw [h4]; rfl
                    have HTe := Lib.hid (show [.int .u8 (s0 : Int), .int .u8 (s1 : Int), .int .u8 (s2 : Int), .int .u8 (s3 : Int)] = (elL Tn).map vb by
                      rw [HTn.out, turn_four j t k (by rw [← Hr.out]; exact hr0) h8 (by rw [← hr8]; exact h4), ← ht0, ← ht1, ← ht2, ← ht3, ← hs0, ← hs1, ← hs2, ← hs3]
                      rfl)
                    have HTd := Lib.hid HT1.out.drew
                    have HTf := Lib.hid (Blk.fill HTd.out [.int .u8 (s0 : Int), .int .u8 (s1 : Int), .int .u8 (s2 : Int), .int .u8 (s3 : Int)] rfl)
                    have HNf := Lib.hid (HN.out.under (nu_fill (a := wr) [.int .u8 (s0 : Int), .int .u8 (s1 : Int), .int .u8 (s2 : Int), .int .u8 (s3 : Int)] (g := T) (by rw [HTw.out]; exact Nat.le_refl _) 0 _ (nu_drew Hal.out)))
                    clear h0 h1 h2 h3 ht0 ht1 ht2 ht3 hs0 hs1 hs2 hs3 hs18 hr0 h8 h4 hr8
                    go_upto_region 19 with fail
                    go_still_tail 17, (by kernel_rfl)
                    change wpList _ _ _ _ _ u1.drew
                    clear d0 d1 d2 d3 b0 b1' b2 b3
                    go_wp2_with (refine wpList_store_blk rfl 58 (.tmp 10) (.tmp 131) rfl T [.int .u8 (s0 : Int), .int .u8 (s1 : Int), .int .u8 (s2 : Int), .int .u8 (s3 : Int)] rfl rfl 58 _ HTd.out rfl (by kernel_rfl) (fun q hq => by simp only [List.mem_cons, List.not_mem_nil, or_false] at hq; rcases hq with rfl | rfl | rfl | rfl <;> rfl) ?_)
                    go_meet
                    exact ⟨rfl, HNf.out, by rw [← HTe.out]; exact HTf.out⟩
                  · have hb4 : ((r8 : Int) == 4) = false := by rw [beq_eq_false_iff_ne]; omega
                    have HTe := Lib.hid (show Tn = t by rw [HTn.out, turnOf, if_neg (by rw [← Hr.out]; exact hr0), if_neg (by rw [← hr8]; omega)])
                    clear h0 h1 h2 h3 ht0 ht1 ht2 ht3 hs0 hs1 hs2 hs3 hs18 hr0 h8 h4 hr8 d0 d1 d2 d3 b0 b1' b2 b3
                    go_wp2_with fail
                    go_meet
                    exact ⟨rfl, HN1.out, by rw [HTe.out]; exact HT1.out⟩
                · have hb8 : ((k : Int) == 8) = false := by rw [beq_eq_false_iff_ne]; omega
                  have HTe := Lib.hid (show Tn = t by rw [HTn.out, turnOf, if_neg (by rw [← Hr.out]; exact hr0), if_neg (fun h => h8 h.1)])
                  clear h0 h1 h2 h3 ht0 ht1 ht2 ht3 hs0 hs1 hs2 hs3 hs18 hr0 h8 hr8 d0 d1 d2 d3 b0 b1' b2 b3
                  go_wp2_with fail
                  go_meet
                  exact ⟨rfl, HN1.out, by rw [HTe.out]; exact HT1.out⟩
            case rest =>
              obtain ⟨rfl, hN, hT⟩ := hcut
              clear HN HN1 HT1 HO Hal em Hr
              have HN := Lib.hid hN
              have HT := Lib.hid hT
              clear hN hT
              obtain ⟨z, hz'⟩ : ∃ z, W.getD q 0 = z := ⟨_, rfl⟩
              obtain ⟨y, hy⟩ : ∃ y, y = z ^^^ Tn := ⟨_, rfl⟩
              have HYe := Lib.hid (show nextW k W = y by
                have h1 := Hj.out
                rw [nextW, HWl.out, show j - k = q by omega, show j - 1 = p by omega, hz', Ht.out, ← HTn.out, hy])
              have HEl := Lib.hid (show ∀ i, i < 4 → (elL y)[i]? = some (wb z i ^^^ wb Tn i) from fun i hi => by rw [elL_at y i hi, hy, wb_xor])
              have Hz := Lib.hid hz'
              have HVm := Lib.hid (Blk.made wc 58 (z4.map vb).toArray)
              have hal := nu_alloc (nu_refl wc) (.cells (z4.map vb).toArray 58)
              have HN2 := Lib.hid (HN.out.under hal)
              have HT2 := Lib.hid (HT.out.below hal HT.out.lt)
              have HTV := Lib.hid (show T ≠ wc.heap.size from Nat.ne_of_lt HT.out.lt)
              have Hal := Lib.hid hal
              clear hal hy hz' HT
              go_upto_region 21 with fail
              change Code.wp _ _ _ _ (wc.alloc (.cells (z4.map vb).toArray 58))
              generalize wc.alloc (.cells (z4.map vb).toArray 58) = u2 at *
              obtain ⟨V, hV⟩ : ∃ V, V = wc.heap.size := ⟨_, rfl⟩
              rw [← hV] at HVm HTV
              rw [← hV]
              have HVw := Lib.hid hV
              clear hV
              go_wp2_with fail
              go_loopw [12] (fun i wr => ∃ e : Nat, e ≤ 4 ∧ i = .int .i64 e ∧ Blk wr T 58 ((elL Tn).map vb).toArray ∧ Blk wr V 58 ((doneF (elL y) z4 e).map vb).toArray ∧ Below wc.heap.size wc wr) (fun i _ => 4 - (intOf i).toNat)
              case atStart => exact ⟨0, by omega, rfl, HT2.out, HVm.out, Hal.out⟩
              case round =>
                clear HT2 HVm HN2 Hal
                obtain ⟨e, he, rfl, hT, hV, hn⟩ := hrel
                have HT := Lib.hid hT
                have HV := Lib.hid hV
                have HN2 := Lib.hid (HN.out.under hn)
                clear hT hV
                by_cases helt : e < 4
                · have hei : (e : Int) < 4 := by omega
                  have wjq : IntKind.i64.wrap ((j : Int) - (k : Int)) = (q : Int) := by rw [IntKind.wrap_i64]; have := Hj.out; omega
                  have hqj : (q : Int) < (j : Int) := by have := Hj.out; omega
                  obtain ⟨x, hx⟩ : ∃ x, x = wb z e := ⟨_, rfl⟩
                  obtain ⟨u, hu⟩ : ∃ u, u = wb Tn e := ⟨_, rfl⟩
                  obtain ⟨s, hs⟩ : ∃ s, s = x ^^^ u := ⟨_, rfl⟩
                  have hxx := u8_xor_nat x u (by rw [hx]; exact wb_lt _ _) (by rw [hu]; exact wb_lt _ _)
                  rw [← hs] at hxx
                  have hE := HEl.out e helt
                  rw [← hx, ← hu, ← hs] at hE
                  have hown := HN2.out.own
                  rw [HWl.out] at hown
                  have cR : wr.cell? ⟨m, q * 4 + e, none⟩ = some (.int .u8 (x : Int)) := by
                    rw [hx, ← Hz.out]
                    exact row_at hown HWl.out q e (by have := Hj.out; omega) helt
                  have c0 : wr.cell? ⟨KK, 0, none⟩ = some (.slice (some ⟨m, 0, none⟩) j c) := HN2.out.c.at 0 _ (rkeyL_0 _)
                  have cT : wr.cell? ⟨T, e, none⟩ = some (.int .u8 (u : Int)) := by rw [hu]; exact HT.out.at e _ (arrg_at vb _ e _ (elL_at Tn e helt))
                  have hold : (doneF (elL y) z4 e)[e]? = some 0 := by
                    rw [doneF_old _ _ 4 e e rfl (Nat.le_refl _) he]
                    rcases (show e = 0 ∨ e = 1 ∨ e = 2 ∨ e = 3 by omega) with rfl | rfl | rfl | rfl <;> rfl
                  have hset := HV.out.drew.put e (vb s)
                  rw [arrg_set, doneF_set _ _ 4 e s rfl rfl helt hE] at hset
                  have HV1 := Lib.hid hset
                  have HT1 := Lib.hid (HT.out.drew.far (p := ⟨V, e, none⟩) HTV.out (vb s))
                  have hn1 := nu_set hn.drew (p := ⟨V, e, none⟩) (show wc.heap.size ≤ V by rw [HVw.out]; exact Nat.le_refl _) (vb s)
                  have cV : wr.drew.cell? ⟨V, e, none⟩ = some (.int .u8 ((0 : Nat) : Int)) := HV.out.drew.at e _ (arrg_at vb _ e 0 hold)
                  have fV := HV.out.drew.free e
                  simp only [vb] at HV1 HT1 hn1
                  have HD := Lib.hid (And.intro cV fV)
                  clear hx hu hs hE hown hold hset cV fV HT HV hn HN2
                  go_upto_region 24 with fail
                  go_still_tail 15, (by kernel_rfl)
                  change wpList _ _ _ _ _ wr.drew
                  clear cR c0 cT hxx wjq hqj
                  obtain ⟨cV, fV⟩ := HD.out
                  clear HD
                  generalize wr.drew = u3 at *
                  go_wp2_with fail
                  clear cV fV
                  generalize u3.setCell ⟨V, e, none⟩ (.int .u8 (s : Int)) = u4 at *
                  go_roundw
                  case rel => first | exact ⟨e + 1, by omega, by go_num, HT1.out, HV1.out, hn1⟩ | ((repeat apply Exists.intro); exact ⟨⟨e + 1, by omega, by go_num, HT1.out, HV1.out, hn1⟩, rfl⟩)
                  case measure => simp [intOf]; omega
                · obtain rfl : e = 4 := by omega
                  have hV := HV.out
                  rw [doneF_all _ _ 4 rfl rfl] at hV
                  obtain ⟨e0, he0⟩ : ∃ x, x = wb y 0 := ⟨_, rfl⟩
                  obtain ⟨e1, he1⟩ : ∃ x, x = wb y 1 := ⟨_, rfl⟩
                  obtain ⟨e2, he2⟩ : ∃ x, x = wb y 2 := ⟨_, rfl⟩
                  obtain ⟨e3, he3⟩ : ∃ x, x = wb y 3 := ⟨_, rfl⟩
                  have Hel := Lib.hid (show (elL y).map vb = [.int .u8 (e0 : Int), .int .u8 (e1 : Int), .int .u8 (e2 : Int), .int .u8 (e3 : Int)] by unfold elL; rw [← he0, ← he1, ← he2, ← he3]; rfl)
                  rw [Hel.out] at hV
                  have HV2 := Lib.hid hV
                  have c0 : wr.cell? ⟨KK, 0, none⟩ = some (.slice (some ⟨m, 0, none⟩) j c) := HN2.out.c.at 0 _ (rkeyL_0 _)
                  have hal := nu_alloc (nu_refl wr) (.cells #[.int .u8 (e0 : Int), .int .u8 (e1 : Int), .int .u8 (e2 : Int), .int .u8 (e3 : Int)] 58)
                  have HN3 := Lib.hid (HN2.out.under hal)
                  have hown3 := HN3.out.own
                  rw [HWl.out] at hown3
                  have HO3 := Lib.hid hown3
                  have HY := Lib.hid (Blk.made wr 58 #[.int .u8 (e0 : Int), .int .u8 (e1 : Int), .int .u8 (e2 : Int), .int .u8 (e3 : Int)])
                  clear hV HV HT he0 he1 he2 he3 hal hown3 hn
                  obtain ⟨wo, rfl⟩ : ∃ x : World, x = wr := ⟨_, rfl⟩
                  go_wp2_with (first | (refine wpList_run _ (by rfl) (e4_load (cs := [.int .u8 (e0 : Int), .int .u8 (e1 : Int), .int .u8 (e2 : Int), .int .u8 (e3 : Int)]) (range_blk HV2.out) rfl (.tmp 11) rfl rfl) ?_) | (at_builtin; refine wpList_append_own _ rfl (.tmp 152) (.tmp 154) 28 rfl B0 58 i0 (.agg (z4.map vb).toArray) 4 4 Try.underlying28 Hi.out.1 Hi.out.2.1 Hi.out.2.2.1 Hi.out.2.2.2 rfl (by decide) (.slice (some ⟨m, 0, none⟩) j c) j ((flat W).map vb) rfl HO3.out ⟨wo.heap.size, 0, none⟩ 1 1 [.int .u8 (e0 : Int), .int .u8 (e1 : Int), .int .u8 (e2 : Int), .int .u8 (e3 : Int)] rfl rfl ?c1 ?c2 ?c3 ?c4 ?c5 ?_))
                  case c1 => intro i v hv; rw [Addr.add_lit, Nat.zero_add]; exact HY.out.at i v (by simpa using hv)
                  case c2 => intro v hv; simp only [List.mem_cons, List.not_mem_nil, or_false] at hv; rcases hv with rfl | rfl | rfl | rfl <;> rfl
                  case c3 => unfold maxLen; omega
                  case c4 => omega
                  case c5 => exact HN3.out.base
                  intro v2 u9 hown hgr _
                  obtain ⟨m2, q2, c2, hv2⟩ := own_slice hown (by omega)
                  subst hv2
                  rw [← Hel.out, ← HWl.out] at hown
                  obtain ⟨hP1, hP2, hP3⟩ := HN3.out.push (y := y) hown hgr
                  have HP := Lib.hid (show RK w KK KR X B0 (grow k (d + 1) (words key k)) (.slice (some ⟨m2, 0, none⟩) q2 c2) _ from by rw [HWn.out, HYe.out]; exact hP1)
                  have c9 := hP2.at 0 _ (rkeyL_0 _)
                  have f9 := hP2.free 0
                  clear hown hgr hP1 hP2 hP3 HN2 HN3 HY HO3 c0 HV2
                  go_wp2_with fail
                  clear c9 f9
                  generalize u9.setCell ⟨KK, 0, none⟩ (.slice (some ⟨m2, 0, none⟩) q2 c2) = u10 at *
                  go_roundw
                  case rel =>
                    have hR : ∃ (d' : Nat) (v : Value), d' ≤ 4 * (k + 7) - k ∧ Value.int .i64 ((j : Int) + 1) = .int .i64 ((k + d' : Nat) : Int) ∧ RK w KK KR X B0 (grow k d' (words key k)) v u10 :=
                      ⟨d + 1, _, by have := Hj.out; have := Hlt.out; omega, by rw [show ((k + (d + 1) : Nat) : Int) = (j : Int) + 1 by have := Hj.out.1; omega], HP.out⟩
                    first | exact hR | ((repeat apply Exists.intro); exact ⟨hR, rfl⟩)
                  case measure => have := Hlt.out; simp [intOf]; omega
          · have hde : d = 4 * (k + 7) - k := by omega
            have hji : ¬ (j : Int) < 4 * ((k : Int) + 7) := by omega
            have HF := Lib.hid (show RowsAt wr (.slice (some ⟨m, 0, none⟩) j c) (expand key) by
              have h := hN.rows (by rw [hWl]; omega)
              rw [expand, Hkl.out, show L / 4 = k by have := HL.out; omega, ← hde, hW]
              exact h)
            have Hnu := Lib.hid hN.nu
            obtain ⟨LK, hLK⟩ : ∃ LK, LK = rkeyL (.slice (some ⟨m, 0, none⟩) j c) := ⟨_, rfl⟩
            have hc := hN.c
            rw [← hLK] at hc
            have HC := Lib.hid hc
            have HZ := Lib.hid hN.z
            have HLl := Lib.hid (show LK.length = 513 by rw [hLK]; exact rkeyL_len _)
            have HL1 := Lib.hid (show ∀ v ∈ LK, v.oneCell' = true by
              rw [hLK]
              intro v hv
              rcases List.mem_cons.1 hv with rfl | hv
              · rfl
              · rcases List.mem_append.1 hv with hv | hv <;> exact vb_one _ v hv)
            have HLe := Lib.hid hLK
            have HKR := Lib.hid (show w.heap.size ≤ KR from hN.ord.2.2.1)
            have HFk := Lib.hid (Blk.fill HZ.out LK (by rw [List.size_toArray, keyZ_len, HLl.out]))
            have Hn := Lib.hid (nu_fill LK (g := KR) HKR.out 0 _ Hnu.out)
            have Hkr := Lib.hid (show RowsAt (wr.setCells KR 0 LK) (.slice (some ⟨m, 0, none⟩) j c) (expand key) by
              obtain ⟨m', c', cur, h1, h2, h3⟩ := HF.out
              have hmm : m = m' := by
                injection h1 with h1
                injection h1 with h1
                injection h1
              refine ⟨m', c', cur, h1, h2.farCells LK ?_ 0, h3⟩
              have hb := (hown.lt m rfl).1
              have ho := hN.ord
              omega)
            clear hN hWl hWs hW hj hown hp hq' hd hde hlt hBm hml HO HN HWn HW HWs HWl hc hLK Hnu HF
            go_wp2_with (first | (refine wpList_run _ (by rfl) (eKey_load HC.out HLl.out (.tmp 4) rfl rfl) ?_) | (refine wpList_store_in rfl 31 (.tmp 2) (.tmp 157) rfl KR 0 LK rfl rfl 31 keyZ.toArray HZ.out (by rw [List.size_toArray, keyZ_len, HLl.out]; omega) (by rw [HLl.out]; kernel_rfl) HL1.out ?_))
            refine bodyPost_ret (results_blkS2 rfl _ KR 31 LK.toArray rfl HFk.out Try.underlying31 (by rw [List.size_toArray, HLl.out]; kernel_rfl)) rfl ⟨_, by rw [HLe.out]; rfl, Hkr.out, Hn.out⟩
end Go.Proofs.Ytpeibkdcglkimaa

namespace Go.Proofs.Ytpeibkdcglkimaa
open Go.ChangeShapes Go.WideShapes Go.ChangeAt Go.RowKit Fld Aes
set_option linter.unusedSimpArgs false

structure CBK (w : World) (C R : Nat) (W : List Nat) (B : Nat) (b : List Nat) (KB : Nat) (L : List Value) (v : Value) : Prop where
  c : CiphAt w C W R
  b : Blk w B 44 (b.map vb).toArray
  k : Blk w KB 31 L.toArray
  r : RowsAt w v W
theorem CBK.below {w w' : World} {C R : Nat} {W : List Nat} {B : Nat} {b : List Nat} {KB : Nat} {L : List Value} {v : Value} (h : CBK w C R W B b KB L v) (hb : Below w.heap.size w w') : CBK w' C R W B b KB L v := ⟨h.c.below hb, h.b.below hb h.b.lt, h.k.below hb h.k.lt, h.r.below hb⟩
theorem CBK.drew {w : World} {C R : Nat} {W : List Nat} {B : Nat} {b : List Nat} {KB : Nat} {L : List Value} {v : Value} (h : CBK w C R W B b KB L v) : CBK w.drew C R W B b KB L v := h.below (nu_drew (nu_refl w))
theorem refEnc_is {w : World} {v : Value} {W : List Nat} {R : Nat} (hv : RowsAt w v W) (hK : Keyed W R) {L : List Value} (hL : L = rkeyL v) {b D : List Nat} (hb : St16 b) (hD : enc W R b = D) :
    Calls Try.prog 33 #[.agg L.toArray, .agg (b.map vb).toArray] w fun e w' => e = .returned (.agg (D.map vb).toArray) ∧ Below w.heap.size w w' := by
  rw [hL, ← hD]
  exact refEncrypt_any hv hK b hb
theorem rkeyL_one (v : Value) (h : v.oneCell' = true) : ∀ u ∈ rkeyL v, u.oneCell' = true := by
  intro u hu
  rcases List.mem_cons.1 hu with rfl | hu
  · exact h
  · rcases List.mem_append.1 hu with hu | hu <;> exact vb_one _ u hu
theorem keyZ_one : ∀ u ∈ keyZ, u.oneCell' = true := by
  intro u hu
  rcases List.mem_cons.1 hu with rfl | hu
  · rfl
  · rcases List.mem_append.1 hu with hu | hu <;> exact vb_one _ u hu
theorem RowsAt.one {w : World} {v : Value} {W : List Nat} (h : RowsAt w v W) : v.oneCell' = true := by
  obtain ⟨m, c, cur, rfl, _⟩ := h
  rfl
theorem zero_key_size : (Try.zeroCells31).size = 513 := by rw [zero_key, List.size_toArray, keyZ_len]
end Go.Proofs.Ytpeibkdcglkimaa

namespace Go.Proofs.Ytpeibkdcglkimaa
open Go.ChangeShapes Go.WideShapes Go.ChangeAt Go.RowKit Fld Aes
set_option linter.unusedSimpArgs false

theorem CiphAt.poke {w : World} {C R I k : Nat} {W : List Nat} {cs : Array Value} (h : CiphAt w C W R) (hI : Blk w I 5 cs) (u : Value) : CiphAt (w.setCell ⟨I, k, none⟩ u) C W R := by
  obtain ⟨x, m, c, cur, h1, h2, h3, ⟨bs, hb1, hb2⟩, h5, h6⟩ := h
  refine ⟨x, m, c, cur, h1.far (p := ⟨I, k, none⟩) (h1.apart hI (by decide)) u, h2.far (p := ⟨I, k, none⟩) (h2.apart hI (by decide)) u, h3, ⟨bs, hb1.far (p := ⟨I, k, none⟩) (hb1.apart hI (by decide)) u, hb2⟩, by simpa [World.setCell] using h5, h6⟩
theorem CBK.poke {w : World} {C R I k : Nat} {W : List Nat} {B : Nat} {b : List Nat} {KB : Nat} {L : List Value} {v : Value} {cs : Array Value} (h : CBK w C R W B b KB L v) (hI : Blk w I 5 cs) (u : Value) : CBK (w.setCell ⟨I, k, none⟩ u) C R W B b KB L v := by
  obtain ⟨m, c, cur, hv, hm, h3⟩ := h.r
  exact ⟨h.c.poke hI u, h.b.far (p := ⟨I, k, none⟩) (h.b.apart hI (by decide)) u, h.k.far (p := ⟨I, k, none⟩) (h.k.apart hI (by decide)) u, ⟨m, c, cur, hv, hm.far (p := ⟨I, k, none⟩) (hm.apart hI (by decide)) u, h3⟩⟩
end Go.Proofs.Ytpeibkdcglkimaa

namespace Go.Proofs.Ytpeibkdcglkimaa
open Fld Aes Gcm

theorem xorL_left {a b c : List Nat} (ha : a.length = 16) (hb : b.length = 16) (hc : c.length = 16) (e : xorL a c = xorL b c) : a = b := by
  apply List.ext_getElem?
  intro i
  by_cases h : i < 16
  · obtain ⟨x, hx⟩ : ∃ x, a[i]? = some x := ⟨_, List.getElem?_eq_getElem (by rw [ha]; exact h)⟩
    obtain ⟨y, hy⟩ : ∃ y, b[i]? = some y := ⟨_, List.getElem?_eq_getElem (by rw [hb]; exact h)⟩
    obtain ⟨z, hz⟩ : ∃ z, c[i]? = some z := ⟨_, List.getElem?_eq_getElem (by rw [hc]; exact h)⟩
    have h1 := xorL_at hx hz
    rw [e, xorL_at hy hz] at h1
    injection h1 with h1
    rw [hx, hy, xcr z y x h1]
  · rw [List.getElem?_eq_none (by omega), List.getElem?_eq_none (by omega)]
theorem xorL_right {a b c : List Nat} (ha : a.length = 16) (hb : b.length = 16) (hc : c.length = 16) (e : xorL c a = xorL c b) : a = b := by
  apply List.ext_getElem?
  intro i
  by_cases h : i < 16
  · obtain ⟨x, hx⟩ : ∃ x, a[i]? = some x := ⟨_, List.getElem?_eq_getElem (by rw [ha]; exact h)⟩
    obtain ⟨y, hy⟩ : ∃ y, b[i]? = some y := ⟨_, List.getElem?_eq_getElem (by rw [hb]; exact h)⟩
    obtain ⟨z, hz⟩ : ∃ z, c[i]? = some z := ⟨_, List.getElem?_eq_getElem (by rw [hc]; exact h)⟩
    have h1 := xorL_at hz hx
    rw [e, xorL_at hz hy] at h1
    injection h1 with h1
    rw [hx, hy, xcl z y x h1]
  · rw [List.getElem?_eq_none (by omega), List.getElem?_eq_none (by omega)]
theorem gsum_text (h : Nat) (hh : h < 2 ^ 128) (h0 : h ≠ 0) (aad text : List Nat) (i z : Nat) (hi : i < text.length) (hz : z < 256) (hx : ∀ x ∈ text, x < 256) (e : gsumB h aad text = gsumB h aad (text.set i z)) : text = text.set i z := by
  unfold gsumB at e
  rw [List.length_set] at e
  have e1 := bytB_inj _ _ (gfold_lt _ _ _ hh (by decide)) (gfold_lt _ _ _ hh (by decide)) e
  rw [List.append_assoc, List.append_assoc, gfold_app, gfold_app h 0 (blocks aad)] at e1
  exact gfold_set h hh h0 z hz _ _ text i _ (Nat.le_refl _) hi hx (gfold_lt _ _ _ hh (by decide)) e1
theorem gsum_aad (h : Nat) (hh : h < 2 ^ 128) (h0 : h ≠ 0) (aad text : List Nat) (i z : Nat) (hi : i < aad.length) (hz : z < 256) (hx : ∀ x ∈ aad, x < 256) (e : gsumB h aad text = gsumB h (aad.set i z) text) : aad = aad.set i z := by
  unfold gsumB at e
  rw [List.length_set] at e
  have e1 := bytB_inj _ _ (gfold_lt _ _ _ hh (by decide)) (gfold_lt _ _ _ hh (by decide)) e
  rw [List.append_assoc, List.append_assoc] at e1
  exact gfold_set h hh h0 z hz _ _ aad i _ (Nat.le_refl _) hi hx (by decide) e1
theorem set_ne {xs : List Nat} {i z y : Nat} (hy : xs[i]? = some y) (hz : z ≠ y) : xs ≠ xs.set i z := fun e => by
  have hi := (List.getElem?_eq_some_iff.1 hy).1
  have h1 : (xs.set i z)[i]? = some y := by rw [← e]; exact hy
  rw [List.getElem?_set_self hi] at h1
  injection h1 with h1
  exact hz h1
section
variable (W : List Nat) (R : Nat) (nonce : List Nat) (h : Nat) (hh : h < 2 ^ 128) (h0 : h ≠ 0) (xs ys : List Nat) (hys : ∀ x ∈ ys, x < 256)
include hh h0 hys
theorem turned_bad (i z y : Nat) (hy : (sealL W R nonce h xs ys)[i]? = some y) (hz : z ≠ y) (hz8 : z < 256) : ¬ tagL W R nonce h xs (((sealL W R nonce h xs ys).set i z).take ys.length) = ((sealL W R nonce h xs ys).set i z).drop ys.length := by
  obtain ⟨T, hT⟩ : ∃ T, T = turned W R nonce ys := ⟨_, rfl⟩
  have hTl : T.length = ys.length := by rw [hT, turned_len]
  have hT8 : ∀ x ∈ T, x < 256 := by rw [hT]; exact turned_lt W R nonce ys hys
  have hs : sealL W R nonce h xs ys = T ++ tagL W R nonce h xs T := by rw [sealL, ← hT]
  rw [hs] at hy ⊢
  intro e
  by_cases hi : i < ys.length
  · rw [List.set_append_left _ _ (by omega), List.take_left' (by rw [List.length_set]; exact hTl), List.drop_left' (by rw [List.length_set]; exact hTl)] at e
    rw [List.getElem?_append_left (by omega)] at hy
    have e1 := xorL_left (gsumB_st _ _ _).1 (gsumB_st _ _ _).1 (ctr_st _ _ _ _).1 e
    exact set_ne hy hz (gsum_text h hh h0 xs T i z (by omega) hz8 hT8 e1.symm)
  · rw [List.set_append_right _ _ (by omega), List.take_left' hTl, List.drop_left' hTl] at e
    rw [List.getElem?_append_right (by omega)] at hy
    exact set_ne hy hz e
end
theorem aad_bad (W : List Nat) (R : Nat) (nonce : List Nat) (h : Nat) (hh : h < 2 ^ 128) (h0 : h ≠ 0) (xs ys : List Nat) (j z y : Nat) (hxs : ∀ x ∈ xs, x < 256) (hy : xs[j]? = some y) (hz : z ≠ y) (hz8 : z < 256) : ¬ tagL W R nonce h (xs.set j z) ((sealL W R nonce h xs ys).take ys.length) = (sealL W R nonce h xs ys).drop ys.length := by
  unfold sealL
  rw [List.take_left' (by rw [turned_len]), List.drop_left' (by rw [turned_len])]
  intro e
  have e1 := xorL_left (gsumB_st _ _ _).1 (gsumB_st _ _ _).1 (ctr_st _ _ _ _).1 e
  exact set_ne hy hz (gsum_aad h hh h0 xs _ j z (List.getElem?_eq_some_iff.1 hy).1 hz8 hxs e1.symm)
theorem other_bad (W : List Nat) (R : Nat) (hR : 0 < R) (nonce other : List Nat) (h : Nat) (xs ys : List Nat) (h12 : nonce.length = 12) (hx12 : ∀ x ∈ nonce, x < 256) (ho : other.length = 12) (hox : ∀ x ∈ other, x < 256) (hne : other ≠ nonce) : ¬ tagL W R other h xs ((sealL W R nonce h xs ys).take ys.length) = (sealL W R nonce h xs ys).drop ys.length := by
  unfold sealL
  rw [List.take_left' (by rw [turned_len]), List.drop_left' (by rw [turned_len])]
  intro e
  have e1 := xorL_right (ctr_st _ _ _ _).1 (ctr_st _ _ _ _).1 (gsumB_st _ _ _).1 e
  have e2 := enc_inj (cb_st ho hox 1) (cb_st h12 hx12 1) W R hR e1
  exact hne (List.append_inj e2 (by rw [ho, h12])).1
end Go.Proofs.Ytpeibkdcglkimaa
