/-
  SHA-256 over words that are integers, in plain words of Lean
-/
import Derived.Test.YtlekepigndlbhaaDoorSha1
namespace Go.Proofs.YtlekepigndlbhaaDoor
open Go.RowKit

/-- Eight words. -/
structure V8 where
  a : Int
  b : Int
  c : Int
  d : Int
  e : Int
  f : Int
  g : Int
  h : Int
def V8.l (v : V8) : List Int := [v.a, v.b, v.c, v.d, v.e, v.f, v.g, v.h]
def wv (x : Int) : Value := .int .u32 x
def KK : List Int := [1116352408, 1899447441, 3049323471, 3921009573, 961987163, 1508970993, 2453635748, 2870763221, 3624381080, 310598401, 607225278, 1426881987, 1925078388, 2162078206, 2614888103, 3248222580, 3835390401, 4022224774, 264347078, 604807628, 770255983, 1249150122, 1555081692, 1996064986, 2554220882, 2821834349, 2952996808, 3210313671, 3336571891, 3584528711, 113926993, 338241895, 666307205, 773529912, 1294757372, 1396182291, 1695183700, 1986661051, 2177026350, 2456956037, 2730485921, 2820302411, 3259730800, 3345764771, 3516065817, 3600352804, 4094571909, 275423344, 430227734, 506948616, 659060556, 883997877, 958139571, 1322822218, 1537002063, 1747873779, 1955562222, 2024104815, 2227730452, 2361852424, 2428436474, 2756734187, 3204031479, 3329325298]
def v0 : V8 := ⟨1779033703, 3144134277, 1013904242, 2773480762, 1359893119, 2600822924, 528734635, 1541459225⟩
def nt (x : Int) : Int := bits .xor .u32 (if IntKind.u32.signed = true then -1 else IntKind.u32.max) x
def sg0 (x : Int) : Int := (bits .xor .u32 (bits .xor .u32 (rr x 128 33554432) (rr x 262144 16384)) (x / 8))
def sg1 (x : Int) : Int := (bits .xor .u32 (bits .xor .u32 (rr x 131072 32768) (rr x 524288 8192)) (x / 1024))
def S0 (x : Int) : Int := (bits .xor .u32 (bits .xor .u32 (rr x 4 1073741824) (rr x 8192 524288)) (rr x 4194304 1024))
def S1 (x : Int) : Int := (bits .xor .u32 (bits .xor .u32 (rr x 64 67108864) (rr x 2048 2097152)) (rr x 33554432 128))
def ch (e f g : Int) : Int := (bits .xor .u32 (bits .and .u32 e f) (bits .and .u32 (nt e) g))
def mj (a b c : Int) : Int := (bits .xor .u32 (bits .xor .u32 (bits .and .u32 a b) (bits .and .u32 a c)) (bits .and .u32 b c))
def one (v : V8) (k w : Int) : Int := v.h + S1 v.e + ch v.e v.f v.g + k + w
def two (v : V8) : Int := S0 v.a + mj v.a v.b v.c
def rnd (v : V8) (k w : Int) : V8 := ⟨(one v k w + two v) % 4294967296, v.a, v.b, v.c, (v.d + one v k w) % 4294967296, v.e, v.f, v.g⟩
/-- A word of four bytes. -/
def wd (blk : List Nat) (t : Nat) : Int := ((blk.getD (4 * t) 0 * 16777216 + blk.getD (4 * t + 1) 0 * 65536 + blk.getD (4 * t + 2) 0 * 256 + blk.getD (4 * t + 3) 0 : Nat) : Int)
def nextW (l : List Int) (t : Nat) : Int := (l.getD (t - 16) 0 + sg0 (l.getD (t - 15) 0) + l.getD (t - 7) 0 + sg1 (l.getD (t - 2) 0)) % 4294967296
/-- The first t of the 64 words of a block. -/
def sched (blk : List Nat) : Nat → List Int
  | 0 => []
  | t + 1 => sched blk t ++ [if t < 16 then wd blk t else nextW (sched blk t) t]
def rnds (ws : List Int) (v : V8) : Nat → V8
  | 0 => v
  | t + 1 => rnd (rnds ws v t) (KK.getD t 0) (ws.getD t 0)
def addV (v r : V8) : V8 := ⟨(v.a + r.a) % 4294967296, (v.b + r.b) % 4294967296, (v.c + r.c) % 4294967296, (v.d + r.d) % 4294967296, (v.e + r.e) % 4294967296, (v.f + r.f) % 4294967296, (v.g + r.g) % 4294967296, (v.h + r.h) % 4294967296⟩
def compress (v : V8) (blk : List Nat) : V8 := addV v (rnds (sched blk 64) v 64)
/-- n blocks. -/
def eat : Nat → V8 → List Nat → V8
  | 0, v, _ => v
  | n + 1, v, xs => eat n (compress v (xs.take 64)) (xs.drop 64)
def b4 (x : Int) : List Nat := [(x / 16777216 % 256).toNat, (x / 65536 % 256).toNat, (x / 256 % 256).toNat, (x % 256).toNat]
def dig (v : V8) : List Nat := b4 v.a ++ b4 v.b ++ b4 v.c ++ b4 v.d ++ b4 v.e ++ b4 v.f ++ b4 v.g ++ b4 v.h
def be8 (n : Nat) : List Nat := [n / 72057594037927936 % 256, n / 281474976710656 % 256, n / 1099511627776 % 256, n / 4294967296 % 256, n / 16777216 % 256, n / 65536 % 256, n / 256 % 256, n % 256]
def padZ (n : Nat) : Nat := (119 - n % 64) % 64
def pad (xs : List Nat) : List Nat := xs ++ [128] ++ List.replicate (padZ xs.length) 0 ++ be8 (8 * xs.length)
def digest (xs : List Nat) : List Nat := dig (eat ((pad xs).length / 64) v0 (pad xs))

/-! ### The words in their array -/
def wfill (blk : List Nat) (t : Nat) : List Int := sched blk t ++ List.replicate (64 - t) 0
theorem sched_len (blk : List Nat) : ∀ t, (sched blk t).length = t
  | 0 => rfl
  | t + 1 => by rw [sched, List.length_append, sched_len blk t]; rfl
theorem wfill_len (blk : List Nat) (t : Nat) (h : t ≤ 64) : (wfill blk t).length = 64 := by
  rw [wfill, List.length_append, sched_len, List.length_replicate]; omega
theorem wfill_old (blk : List Nat) (t i : Nat) (h : i < t) : (wfill blk t)[i]? = some ((sched blk t).getD i 0) := by
  have hl : i < (sched blk t).length := by rw [sched_len]; exact h
  rw [wfill, List.getElem?_append_left hl, List.getElem?_eq_getElem hl]
  simp [List.getD, List.getElem?_eq_getElem hl]
theorem wfill_new (blk : List Nat) (t : Nat) (h : t < 64) : (wfill blk t)[t]? = some 0 := by
  rw [wfill, List.getElem?_append_right (by rw [sched_len]; omega), sched_len, Nat.sub_self, List.getElem?_replicate, if_pos (by omega)]
theorem wfill_set (blk : List Nat) (t : Nat) (h : t < 64) (x : Int) (hx : x = if t < 16 then wd blk t else nextW (sched blk t) t) : (wfill blk t).set t x = wfill blk (t + 1) := by
  rw [wfill, List.set_append, if_neg (by rw [sched_len]; omega), sched_len, Nat.sub_self, show 64 - t = (64 - (t + 1)) + 1 by omega, List.replicate_succ, List.set_cons_zero, wfill, sched, ← hx, List.append_assoc]
  rfl
theorem wfill_all (blk : List Nat) : wfill blk 64 = sched blk 64 := by simp [wfill]
theorem wfill_zero (blk : List Nat) : wfill blk 0 = List.replicate 64 0 := rfl

/-! ### Blocks, one behind the other -/
theorem eat_add (m : Nat) : ∀ (n : Nat) (v : V8) (xs : List Nat), eat (n + m) v xs = eat m (eat n v xs) (xs.drop (64 * n))
  | 0, v, xs => by simp [eat]
  | n + 1, v, xs => by
    rw [show n + 1 + m = (n + m) + 1 by omega, eat, eat_add m n, eat, List.drop_drop, show 64 + 64 * n = 64 * (n + 1) by omega]
theorem eat_left : ∀ (n : Nat) (v : V8) (xs ys : List Nat), 64 * n ≤ xs.length → eat n v (xs ++ ys) = eat n v xs
  | 0, _, _, _, _ => rfl
  | n + 1, v, xs, ys, h => by
    rw [eat, eat, List.take_append_of_le_length (by omega), List.drop_append_of_le_length (by omega), eat_left n _ _ _ (by rw [List.length_drop]; omega)]
/-- What all bytes so far have made. -/
def mid (xs : List Nat) : V8 := eat (xs.length / 64) v0 xs
def lst (xs : List Nat) : List Nat := xs.drop (64 * (xs.length / 64))
theorem lst_len (xs : List Nat) : (lst xs).length = xs.length % 64 := by rw [lst, List.length_drop]; omega
theorem lst_split (xs : List Nat) : xs.take (64 * (xs.length / 64)) ++ lst xs = xs := List.take_append_drop _ _
/-- A few bytes more, which don't fill the block. -/
theorem grow_few (xs ys : List Nat) (h : xs.length % 64 + ys.length < 64) : mid (xs ++ ys) = mid xs ∧ lst (xs ++ ys) = lst xs ++ ys := by
  have hl : (xs ++ ys).length / 64 = xs.length / 64 := by rw [List.length_append]; omega
  refine ⟨?_, ?_⟩
  · rw [mid, hl, eat_left _ _ _ _ (by omega), mid]
  · rw [lst, hl, List.drop_append_of_le_length (by omega), lst]
/-- .. and those that just fill it. -/
theorem grow_full (xs ys : List Nat) (h : xs.length % 64 + ys.length = 64) : mid (xs ++ ys) = compress (mid xs) (lst xs ++ ys) ∧ lst (xs ++ ys) = [] := by
  have hl : (xs ++ ys).length / 64 = xs.length / 64 + 1 := by rw [List.length_append]; omega
  refine ⟨?_, ?_⟩
  · rw [mid, hl, eat_add, eat_left _ _ _ _ (by omega), List.drop_append_of_le_length (by omega), eat, eat, ← lst, ← mid, List.take_of_length_le (by rw [List.length_append, lst_len]; omega)]
  · rw [lst, hl, List.drop_of_length_le (by rw [List.length_append]; omega)]
theorem pad_len (xs : List Nat) : (pad xs).length % 64 = 0 ∧ (pad xs).length = xs.length + 9 + padZ xs.length := by
  have : (pad xs).length = xs.length + 9 + padZ xs.length := by
    simp only [pad, be8, List.length_append, List.length_cons, List.length_nil, List.length_replicate]; omega
  refine ⟨?_, this⟩
  rw [this, padZ]; omega
theorem digest_mid (xs : List Nat) : digest xs = dig (mid (pad xs)) := rfl
theorem b4_lt (x : Int) : ∀ y ∈ b4 x, y < 256 := by
  intro y hy
  simp only [b4, List.mem_cons, List.not_mem_nil, or_false] at hy
  rcases hy with rfl | rfl | rfl | rfl <;> omega
theorem dig_len (v : V8) : (dig v).length = 32 := rfl
theorem dig_lt (v : V8) : ∀ y ∈ dig v, y < 256 := by
  intro y hy
  simp only [dig, List.mem_append] at hy
  rcases hy with ((((((h | h) | h) | h) | h) | h) | h) | h <;> exact b4_lt _ y h
theorem digest_len (xs : List Nat) : (digest xs).length = 32 := rfl
theorem digest_lt (xs : List Nat) : ∀ y ∈ digest xs, y < 256 := dig_lt _
end Go.Proofs.YtlekepigndlbhaaDoor
