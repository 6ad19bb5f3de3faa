/-
  No cell of these rows narrows 'for every input' (looked for: loops, veiled, ifaces, maps, wideKeys, modest, calm, conditions, laid).
  DERIVED. THE GIVEN ROWS OF THIS SEAT. 12 by the template 'for every input the law returns true; each argument reads behind the call as it read before'; 0 by the template 'total and deterministic' (their statements: YtnojbjconiddoaaTotals.lean).
  GIVEN WITH THE SEED: the statements are not yours to turn. If you find one false, say at which input.
  Laid BY PROGRAM, IN A SANDBOX (cutbox-rows.mjs): the forced cells as the released guide's own fill.sh prints them over the translation 0b9bd492c45f11d4… (all of the seat's roots in one cut). By AI agents, Wed Nov 11 2026. No macro, syntax, notation, axiom, sorry.
-/
import Derived.Test.YtnojbjconiddoaaChecked
import GoSem.Claim
import GoSem.ClaimJoined
import GoSem.ClaimMapViews
import Derived.JoinedTies
import Derived.KernelRfl
namespace Go.Proofs.Ytnojbjconiddoaa
/- THE CELL 'sum', in the pinned program and in every row, IS THE sha256 OF THE DUMP (.gsa) THAT YtnojbjconiddoaaProg.lean LOADS. Nothing in Lean hashes anything: it is a label: what it is worth is what the hold of that sum in a sandbox is worth. -/
noncomputable def Try.pinned : Pinned := { name := "ytnojbjconiddoaa", sum := "0b9bd492c45f11d4262e836ab7c8ddcab5531dd5525e6b6c45bb211405dde28c", checked := Try.checked }
namespace Rows
def none {H : Type} : Left H := { results := [], args := [] }

/-- 'thimblelaw07.GhashTimes': WHATEVER THE INPUT: true; the input reads as it did. -/
def ghashTimesSpec : ChangeSpec := { name := "ghashTimes", fn := fun _ => fun
  | [d1, d2] => { results := [.lit (.bool true)], args := [d1, d2] }
  | _ => none }
def ghashTimesRow : OpenClaim := { program := "ytnojbjconiddoaa", sum := "0b9bd492c45f11d4262e836ab7c8ddcab5531dd5525e6b6c45bb211405dde28c", func := "thimble/thimblelaw07.GhashTimes", spec := "ghashTimes", unfollowed := true, recurses := true, apart := false }
def GhashTimesSaid : Prop := ghashTimesRow.holds Try.pinned (OpenSpec.ofChange ghashTimesSpec)

/-- ITS FALSE NEIGHBOUR: 'it returns false'. Refute it at one input. -/
def ghashTimesWrong : ChangeSpec := { name := "ghashTimes", fn := fun _ => fun
  | [d1, d2] => { results := [.lit (.bool false)], args := [d1, d2] }
  | _ => none }
def GhashTimesWrongFalsely : Prop := ghashTimesRow.holds Try.pinned (OpenSpec.ofChange ghashTimesWrong)

/-- 'thimblelaw07.GhashRing': WHATEVER THE INPUT: true; the input reads as it did. -/
def ghashRingSpec : ChangeSpec := { name := "ghashRing", fn := fun _ => fun
  | [d1, d2, d3] => { results := [.lit (.bool true)], args := [d1, d2, d3] }
  | _ => none }
def ghashRingRow : OpenClaim := { program := "ytnojbjconiddoaa", sum := "0b9bd492c45f11d4262e836ab7c8ddcab5531dd5525e6b6c45bb211405dde28c", func := "thimble/thimblelaw07.GhashRing", spec := "ghashRing", unfollowed := true, recurses := true, apart := false }
def GhashRingSaid : Prop := ghashRingRow.holds Try.pinned (OpenSpec.ofChange ghashRingSpec)

/-- ITS FALSE NEIGHBOUR: 'it returns false'. Refute it at one input. -/
def ghashRingWrong : ChangeSpec := { name := "ghashRing", fn := fun _ => fun
  | [d1, d2, d3] => { results := [.lit (.bool false)], args := [d1, d2, d3] }
  | _ => none }
def GhashRingWrongFalsely : Prop := ghashRingRow.holds Try.pinned (OpenSpec.ofChange ghashRingWrong)

/-- 'thimblelaw07.GhashSums': WHATEVER THE INPUT: true; the input reads as it did. -/
def ghashSumsSpec : ChangeSpec := { name := "ghashSums", fn := fun _ => fun
  | [d1, d2, d3] => { results := [.lit (.bool true)], args := [d1, d2, d3] }
  | _ => none }
def ghashSumsRow : OpenClaim := { program := "ytnojbjconiddoaa", sum := "0b9bd492c45f11d4262e836ab7c8ddcab5531dd5525e6b6c45bb211405dde28c", func := "thimble/thimblelaw07.GhashSums", spec := "ghashSums", unfollowed := true, recurses := true, apart := false }
def GhashSumsSaid : Prop := ghashSumsRow.holds Try.pinned (OpenSpec.ofChange ghashSumsSpec)

/-- ITS FALSE NEIGHBOUR: 'it returns false'. Refute it at one input. -/
def ghashSumsWrong : ChangeSpec := { name := "ghashSums", fn := fun _ => fun
  | [d1, d2, d3] => { results := [.lit (.bool false)], args := [d1, d2, d3] }
  | _ => none }
def GhashSumsWrongFalsely : Prop := ghashSumsRow.holds Try.pinned (OpenSpec.ofChange ghashSumsWrong)

/-- 'thimblelaw07.GhashAdds': WHATEVER THE INPUT: true; the input reads as it did. -/
def ghashAddsSpec : ChangeSpec := { name := "ghashAdds", fn := fun _ => fun
  | [d1, d2, d3] => { results := [.lit (.bool true)], args := [d1, d2, d3] }
  | _ => none }
def ghashAddsRow : OpenClaim := { program := "ytnojbjconiddoaa", sum := "0b9bd492c45f11d4262e836ab7c8ddcab5531dd5525e6b6c45bb211405dde28c", func := "thimble/thimblelaw07.GhashAdds", spec := "ghashAdds", unfollowed := true, recurses := true, apart := false }
def GhashAddsSaid : Prop := ghashAddsRow.holds Try.pinned (OpenSpec.ofChange ghashAddsSpec)

/-- ITS FALSE NEIGHBOUR: 'it returns false'. Refute it at one input. -/
def ghashAddsWrong : ChangeSpec := { name := "ghashAdds", fn := fun _ => fun
  | [d1, d2, d3] => { results := [.lit (.bool false)], args := [d1, d2, d3] }
  | _ => none }
def GhashAddsWrongFalsely : Prop := ghashAddsRow.holds Try.pinned (OpenSpec.ofChange ghashAddsWrong)

/-- 'thimblelaw07.GhashApart': WHATEVER THE INPUT: true; the input reads as it did. -/
def ghashApartSpec : ChangeSpec := { name := "ghashApart", fn := fun _ => fun
  | [d1, d2, d3, d4] => { results := [.lit (.bool true)], args := [d1, d2, d3, d4] }
  | _ => none }
def ghashApartRow : OpenClaim := { program := "ytnojbjconiddoaa", sum := "0b9bd492c45f11d4262e836ab7c8ddcab5531dd5525e6b6c45bb211405dde28c", func := "thimble/thimblelaw07.GhashApart", spec := "ghashApart", unfollowed := true, recurses := true, apart := false }
def GhashApartSaid : Prop := ghashApartRow.holds Try.pinned (OpenSpec.ofChange ghashApartSpec)

/-- ITS FALSE NEIGHBOUR: 'it returns false'. Refute it at one input. -/
def ghashApartWrong : ChangeSpec := { name := "ghashApart", fn := fun _ => fun
  | [d1, d2, d3, d4] => { results := [.lit (.bool false)], args := [d1, d2, d3, d4] }
  | _ => none }
def GhashApartWrongFalsely : Prop := ghashApartRow.holds Try.pinned (OpenSpec.ofChange ghashApartWrong)

/-- 'thimblelaw07.GhashKnown': WHATEVER THE INPUT: true; the input reads as it did. -/
def ghashKnownSpec : ChangeSpec := { name := "ghashKnown", fn := fun _ => fun
  | [] => { results := [.lit (.bool true)], args := [] }
  | _ => none }
def ghashKnownRow : OpenClaim := { program := "ytnojbjconiddoaa", sum := "0b9bd492c45f11d4262e836ab7c8ddcab5531dd5525e6b6c45bb211405dde28c", func := "thimble/thimblelaw07.GhashKnown", spec := "ghashKnown", unfollowed := true, recurses := true, apart := false }
def GhashKnownSaid : Prop := ghashKnownRow.holds Try.pinned (OpenSpec.ofChange ghashKnownSpec)

/-- ITS FALSE NEIGHBOUR: 'it returns false'. Refute it at one input. -/
def ghashKnownWrong : ChangeSpec := { name := "ghashKnown", fn := fun _ => fun
  | [] => { results := [.lit (.bool false)], args := [] }
  | _ => none }
def GhashKnownWrongFalsely : Prop := ghashKnownRow.holds Try.pinned (OpenSpec.ofChange ghashKnownWrong)

/-- 'thimblelaw06.AesEncrypts': WHATEVER THE INPUT: true; the input reads as it did. -/
def aesEncryptsSpec : ChangeSpec := { name := "aesEncrypts", fn := fun _ => fun
  | [d1, d2] => { results := [.lit (.bool true)], args := [d1, d2] }
  | _ => none }
def aesEncryptsRow : OpenClaim := { program := "ytnojbjconiddoaa", sum := "0b9bd492c45f11d4262e836ab7c8ddcab5531dd5525e6b6c45bb211405dde28c", func := "thimble/thimblelaw06.AesEncrypts", spec := "aesEncrypts", unfollowed := true, recurses := true, apart := false }
def AesEncryptsSaid : Prop := aesEncryptsRow.holds Try.pinned (OpenSpec.ofChange aesEncryptsSpec)

/-- ITS FALSE NEIGHBOUR: 'it returns false'. Refute it at one input. -/
def aesEncryptsWrong : ChangeSpec := { name := "aesEncrypts", fn := fun _ => fun
  | [d1, d2] => { results := [.lit (.bool false)], args := [d1, d2] }
  | _ => none }
def AesEncryptsWrongFalsely : Prop := aesEncryptsRow.holds Try.pinned (OpenSpec.ofChange aesEncryptsWrong)

/-- 'thimblelaw06.AesWords': WHATEVER THE INPUT: true; the input reads as it did. -/
def aesWordsSpec : ChangeSpec := { name := "aesWords", fn := fun _ => fun
  | [d] => { results := [.lit (.bool true)], args := [d] }
  | _ => none }
def aesWordsRow : OpenClaim := { program := "ytnojbjconiddoaa", sum := "0b9bd492c45f11d4262e836ab7c8ddcab5531dd5525e6b6c45bb211405dde28c", func := "thimble/thimblelaw06.AesWords", spec := "aesWords", unfollowed := true, recurses := true, apart := false }
def AesWordsSaid : Prop := aesWordsRow.holds Try.pinned (OpenSpec.ofChange aesWordsSpec)

/-- ITS FALSE NEIGHBOUR: 'it returns false'. Refute it at one input. -/
def aesWordsWrong : ChangeSpec := { name := "aesWords", fn := fun _ => fun
  | [d] => { results := [.lit (.bool false)], args := [d] }
  | _ => none }
def AesWordsWrongFalsely : Prop := aesWordsRow.holds Try.pinned (OpenSpec.ofChange aesWordsWrong)

/-- 'thimblelaw06.AesDecrypts': WHATEVER THE INPUT: true; the input reads as it did. -/
def aesDecryptsSpec : ChangeSpec := { name := "aesDecrypts", fn := fun _ => fun
  | [d1, d2] => { results := [.lit (.bool true)], args := [d1, d2] }
  | _ => none }
def aesDecryptsRow : OpenClaim := { program := "ytnojbjconiddoaa", sum := "0b9bd492c45f11d4262e836ab7c8ddcab5531dd5525e6b6c45bb211405dde28c", func := "thimble/thimblelaw06.AesDecrypts", spec := "aesDecrypts", unfollowed := true, recurses := true, apart := false }
def AesDecryptsSaid : Prop := aesDecryptsRow.holds Try.pinned (OpenSpec.ofChange aesDecryptsSpec)

/-- ITS FALSE NEIGHBOUR: 'it returns false'. Refute it at one input. -/
def aesDecryptsWrong : ChangeSpec := { name := "aesDecrypts", fn := fun _ => fun
  | [d1, d2] => { results := [.lit (.bool false)], args := [d1, d2] }
  | _ => none }
def AesDecryptsWrongFalsely : Prop := aesDecryptsRow.holds Try.pinned (OpenSpec.ofChange aesDecryptsWrong)

/-- 'thimblelaw06.AesBack': WHATEVER THE INPUT: true; the input reads as it did. -/
def aesBackSpec : ChangeSpec := { name := "aesBack", fn := fun _ => fun
  | [d1, d2] => { results := [.lit (.bool true)], args := [d1, d2] }
  | _ => none }
def aesBackRow : OpenClaim := { program := "ytnojbjconiddoaa", sum := "0b9bd492c45f11d4262e836ab7c8ddcab5531dd5525e6b6c45bb211405dde28c", func := "thimble/thimblelaw06.AesBack", spec := "aesBack", unfollowed := true, recurses := true, apart := false }
def AesBackSaid : Prop := aesBackRow.holds Try.pinned (OpenSpec.ofChange aesBackSpec)

/-- ITS FALSE NEIGHBOUR: 'it returns false'. Refute it at one input. -/
def aesBackWrong : ChangeSpec := { name := "aesBack", fn := fun _ => fun
  | [d1, d2] => { results := [.lit (.bool false)], args := [d1, d2] }
  | _ => none }
def AesBackWrongFalsely : Prop := aesBackRow.holds Try.pinned (OpenSpec.ofChange aesBackWrong)

/-- 'thimblelaw06.AesApart': WHATEVER THE INPUT: true; the input reads as it did. -/
def aesApartSpec : ChangeSpec := { name := "aesApart", fn := fun _ => fun
  | [d1, d2, d3] => { results := [.lit (.bool true)], args := [d1, d2, d3] }
  | _ => none }
def aesApartRow : OpenClaim := { program := "ytnojbjconiddoaa", sum := "0b9bd492c45f11d4262e836ab7c8ddcab5531dd5525e6b6c45bb211405dde28c", func := "thimble/thimblelaw06.AesApart", spec := "aesApart", unfollowed := true, recurses := true, apart := false }
def AesApartSaid : Prop := aesApartRow.holds Try.pinned (OpenSpec.ofChange aesApartSpec)

/-- ITS FALSE NEIGHBOUR: 'it returns false'. Refute it at one input. -/
def aesApartWrong : ChangeSpec := { name := "aesApart", fn := fun _ => fun
  | [d1, d2, d3] => { results := [.lit (.bool false)], args := [d1, d2, d3] }
  | _ => none }
def AesApartWrongFalsely : Prop := aesApartRow.holds Try.pinned (OpenSpec.ofChange aesApartWrong)

/-- 'thimblelaw06.AesKnown': WHATEVER THE INPUT: true; the input reads as it did. -/
def aesKnownSpec : ChangeSpec := { name := "aesKnown", fn := fun _ => fun
  | [] => { results := [.lit (.bool true)], args := [] }
  | _ => none }
def aesKnownRow : OpenClaim := { program := "ytnojbjconiddoaa", sum := "0b9bd492c45f11d4262e836ab7c8ddcab5531dd5525e6b6c45bb211405dde28c", func := "thimble/thimblelaw06.AesKnown", spec := "aesKnown", unfollowed := true, recurses := true, apart := false }
def AesKnownSaid : Prop := aesKnownRow.holds Try.pinned (OpenSpec.ofChange aesKnownSpec)

/-- ITS FALSE NEIGHBOUR: 'it returns false'. Refute it at one input. -/
def aesKnownWrong : ChangeSpec := { name := "aesKnown", fn := fun _ => fun
  | [] => { results := [.lit (.bool false)], args := [] }
  | _ => none }
def AesKnownWrongFalsely : Prop := aesKnownRow.holds Try.pinned (OpenSpec.ofChange aesKnownWrong)

/- THE SECOND FORM. 'bulk': how many values and letters a reading holds, each counted each time it is reached (what is shared counts as often as it is met; a slice's spare places count too). A statement '..UptoSaid' is the law's where the arguments, and the package variables that the reading takes, are together of bulk at most 1048576: NARROWER than '..Said'. Prove '..Said' where nothing that the law and all that it calls make is longer than what came in: it says more and counts as full. Else prove '..UptoSaid'. A law counts once. -/
mutual
def uptoBulk {H : Type} : DataW H → Nat
  | .lit (.string bytes) => bytes.length + 1
  | .lit _ => 1
  | .nil => 1
  | .ptr d => uptoBulk d + 1
  | .slice elems spare => uptoBulkAll elems + uptoBulkAll spare + 1
  | .agg parts => uptoBulkAll parts + 1
  | .iface _ d => uptoBulk d + 1
  | .map entries => uptoBulkEntries entries + 1
  | .held _ => 1
def uptoBulkAll {H : Type} : List (DataW H) → Nat
  | [] => 0
  | d :: r => uptoBulk d + uptoBulkAll r
def uptoBulkEntries {H : Type} : List (Lit × DataW H) → Nat
  | [] => 0
  | x :: r => uptoBulkEntry x + uptoBulkEntries r
def uptoBulkEntry {H : Type} : Lit × DataW H → Nat
  | (.string bytes, d) => bytes.length + uptoBulk d + 1
  | (_, d) => uptoBulk d + 1
 end
def uptoSmall : (H : Type) → List (DataW H) → Bool := fun _ ds => decide (uptoBulkAll ds ≤ 1048576)
def OpenSpec.upto (s : _root_.Go.ChangeSpec) : _root_.Go.OpenSpec := { _root_.Go.OpenSpec.ofChange s with cond := some uptoSmall }

/-- 'thimblelaw07.GhashTimes', WHERE WHAT IT READS IS OF BULK AT MOST 1048576: true; the input reads as it did. -/
def ghashTimesUptoRow : OpenClaim := { program := "ytnojbjconiddoaa", sum := "0b9bd492c45f11d4262e836ab7c8ddcab5531dd5525e6b6c45bb211405dde28c", func := "thimble/thimblelaw07.GhashTimes", spec := "ghashTimes", unfollowed := true, recurses := true, apart := false, narrowed := true }
def GhashTimesUptoSaid : Prop := ghashTimesUptoRow.holds Try.pinned (OpenSpec.upto ghashTimesSpec)

/-- 'thimblelaw07.GhashRing', WHERE WHAT IT READS IS OF BULK AT MOST 1048576: true; the input reads as it did. -/
def ghashRingUptoRow : OpenClaim := { program := "ytnojbjconiddoaa", sum := "0b9bd492c45f11d4262e836ab7c8ddcab5531dd5525e6b6c45bb211405dde28c", func := "thimble/thimblelaw07.GhashRing", spec := "ghashRing", unfollowed := true, recurses := true, apart := false, narrowed := true }
def GhashRingUptoSaid : Prop := ghashRingUptoRow.holds Try.pinned (OpenSpec.upto ghashRingSpec)

/-- 'thimblelaw07.GhashSums', WHERE WHAT IT READS IS OF BULK AT MOST 1048576: true; the input reads as it did. -/
def ghashSumsUptoRow : OpenClaim := { program := "ytnojbjconiddoaa", sum := "0b9bd492c45f11d4262e836ab7c8ddcab5531dd5525e6b6c45bb211405dde28c", func := "thimble/thimblelaw07.GhashSums", spec := "ghashSums", unfollowed := true, recurses := true, apart := false, narrowed := true }
def GhashSumsUptoSaid : Prop := ghashSumsUptoRow.holds Try.pinned (OpenSpec.upto ghashSumsSpec)

/-- 'thimblelaw07.GhashAdds', WHERE WHAT IT READS IS OF BULK AT MOST 1048576: true; the input reads as it did. -/
def ghashAddsUptoRow : OpenClaim := { program := "ytnojbjconiddoaa", sum := "0b9bd492c45f11d4262e836ab7c8ddcab5531dd5525e6b6c45bb211405dde28c", func := "thimble/thimblelaw07.GhashAdds", spec := "ghashAdds", unfollowed := true, recurses := true, apart := false, narrowed := true }
def GhashAddsUptoSaid : Prop := ghashAddsUptoRow.holds Try.pinned (OpenSpec.upto ghashAddsSpec)

/-- 'thimblelaw07.GhashApart', WHERE WHAT IT READS IS OF BULK AT MOST 1048576: true; the input reads as it did. -/
def ghashApartUptoRow : OpenClaim := { program := "ytnojbjconiddoaa", sum := "0b9bd492c45f11d4262e836ab7c8ddcab5531dd5525e6b6c45bb211405dde28c", func := "thimble/thimblelaw07.GhashApart", spec := "ghashApart", unfollowed := true, recurses := true, apart := false, narrowed := true }
def GhashApartUptoSaid : Prop := ghashApartUptoRow.holds Try.pinned (OpenSpec.upto ghashApartSpec)

/-- 'thimblelaw07.GhashKnown', WHERE WHAT IT READS IS OF BULK AT MOST 1048576: true; the input reads as it did. -/
def ghashKnownUptoRow : OpenClaim := { program := "ytnojbjconiddoaa", sum := "0b9bd492c45f11d4262e836ab7c8ddcab5531dd5525e6b6c45bb211405dde28c", func := "thimble/thimblelaw07.GhashKnown", spec := "ghashKnown", unfollowed := true, recurses := true, apart := false, narrowed := true }
def GhashKnownUptoSaid : Prop := ghashKnownUptoRow.holds Try.pinned (OpenSpec.upto ghashKnownSpec)

/-- 'thimblelaw06.AesEncrypts', WHERE WHAT IT READS IS OF BULK AT MOST 1048576: true; the input reads as it did. -/
def aesEncryptsUptoRow : OpenClaim := { program := "ytnojbjconiddoaa", sum := "0b9bd492c45f11d4262e836ab7c8ddcab5531dd5525e6b6c45bb211405dde28c", func := "thimble/thimblelaw06.AesEncrypts", spec := "aesEncrypts", unfollowed := true, recurses := true, apart := false, narrowed := true }
def AesEncryptsUptoSaid : Prop := aesEncryptsUptoRow.holds Try.pinned (OpenSpec.upto aesEncryptsSpec)

/-- 'thimblelaw06.AesWords', WHERE WHAT IT READS IS OF BULK AT MOST 1048576: true; the input reads as it did. -/
def aesWordsUptoRow : OpenClaim := { program := "ytnojbjconiddoaa", sum := "0b9bd492c45f11d4262e836ab7c8ddcab5531dd5525e6b6c45bb211405dde28c", func := "thimble/thimblelaw06.AesWords", spec := "aesWords", unfollowed := true, recurses := true, apart := false, narrowed := true }
def AesWordsUptoSaid : Prop := aesWordsUptoRow.holds Try.pinned (OpenSpec.upto aesWordsSpec)

/-- 'thimblelaw06.AesDecrypts', WHERE WHAT IT READS IS OF BULK AT MOST 1048576: true; the input reads as it did. -/
def aesDecryptsUptoRow : OpenClaim := { program := "ytnojbjconiddoaa", sum := "0b9bd492c45f11d4262e836ab7c8ddcab5531dd5525e6b6c45bb211405dde28c", func := "thimble/thimblelaw06.AesDecrypts", spec := "aesDecrypts", unfollowed := true, recurses := true, apart := false, narrowed := true }
def AesDecryptsUptoSaid : Prop := aesDecryptsUptoRow.holds Try.pinned (OpenSpec.upto aesDecryptsSpec)

/-- 'thimblelaw06.AesBack', WHERE WHAT IT READS IS OF BULK AT MOST 1048576: true; the input reads as it did. -/
def aesBackUptoRow : OpenClaim := { program := "ytnojbjconiddoaa", sum := "0b9bd492c45f11d4262e836ab7c8ddcab5531dd5525e6b6c45bb211405dde28c", func := "thimble/thimblelaw06.AesBack", spec := "aesBack", unfollowed := true, recurses := true, apart := false, narrowed := true }
def AesBackUptoSaid : Prop := aesBackUptoRow.holds Try.pinned (OpenSpec.upto aesBackSpec)

/-- 'thimblelaw06.AesApart', WHERE WHAT IT READS IS OF BULK AT MOST 1048576: true; the input reads as it did. -/
def aesApartUptoRow : OpenClaim := { program := "ytnojbjconiddoaa", sum := "0b9bd492c45f11d4262e836ab7c8ddcab5531dd5525e6b6c45bb211405dde28c", func := "thimble/thimblelaw06.AesApart", spec := "aesApart", unfollowed := true, recurses := true, apart := false, narrowed := true }
def AesApartUptoSaid : Prop := aesApartUptoRow.holds Try.pinned (OpenSpec.upto aesApartSpec)

/-- 'thimblelaw06.AesKnown', WHERE WHAT IT READS IS OF BULK AT MOST 1048576: true; the input reads as it did. -/
def aesKnownUptoRow : OpenClaim := { program := "ytnojbjconiddoaa", sum := "0b9bd492c45f11d4262e836ab7c8ddcab5531dd5525e6b6c45bb211405dde28c", func := "thimble/thimblelaw06.AesKnown", spec := "aesKnown", unfollowed := true, recurses := true, apart := false, narrowed := true }
def AesKnownUptoSaid : Prop := aesKnownUptoRow.holds Try.pinned (OpenSpec.upto aesKnownSpec)

end Rows
end Go.Proofs.Ytnojbjconiddoaa
