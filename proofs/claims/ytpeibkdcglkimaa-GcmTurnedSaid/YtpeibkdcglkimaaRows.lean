/-
  No cell of these rows narrows 'for every input' (looked for: loops, veiled, ifaces, maps, wideKeys, modest, calm, conditions, laid).
  DERIVED. THE GIVEN ROWS OF THIS SEAT. 6 by the template 'for every input the law returns true; each argument reads behind the call as it read before'; 0 by the template 'total and deterministic' (their statements: YtpeibkdcglkimaaTotals.lean).
  GIVEN WITH THE SEED: the statements are not yours to turn. If you find one false, say at which input.
  Laid BY PROGRAM, IN A SANDBOX (cutbox-rows.mjs): the forced cells as the released guide's own fill.sh prints them over the translation de79a4d22d24bdfa… (all of the seat's roots in one cut). By AI agents, Wed Nov 11 2026. No macro, syntax, notation, axiom, sorry.
-/
import Derived.Test.YtpeibkdcglkimaaChecked
import GoSem.Claim
import GoSem.ClaimJoined
import GoSem.ClaimMapViews
import Derived.JoinedTies
import Derived.KernelRfl
namespace Go.Proofs.Ytpeibkdcglkimaa
/- THE CELL 'sum', in the pinned program and in every row, IS THE sha256 OF THE DUMP (.gsa) THAT YtpeibkdcglkimaaProg.lean LOADS. Nothing in Lean hashes anything: it is a label: what it is worth is what the hold of that sum in a sandbox is worth. -/
noncomputable def Try.pinned : Pinned := { name := "ytpeibkdcglkimaa", sum := "de79a4d22d24bdfa688e8a59d883ddf2f89a0387fbcd0d843f5902801b65e9df", checked := Try.checked }
namespace Rows
def none {H : Type} : Left H := { results := [], args := [] }

/-- 'thimblelaw08.GcmSeals': WHATEVER THE INPUT: true; the input reads as it did. -/
def gcmSealsSpec : ChangeSpec := { name := "gcmSeals", fn := fun _ => fun
  | [d1, d2, d3, d4] => { results := [.lit (.bool true)], args := [d1, d2, d3, d4] }
  | _ => none }
def gcmSealsRow : OpenClaim := { program := "ytpeibkdcglkimaa", sum := "de79a4d22d24bdfa688e8a59d883ddf2f89a0387fbcd0d843f5902801b65e9df", func := "thimble/thimblelaw08.GcmSeals", spec := "gcmSeals", unfollowed := true, recurses := true, apart := false }
def GcmSealsSaid : Prop := gcmSealsRow.holds Try.pinned (OpenSpec.ofChange gcmSealsSpec)

/-- ITS FALSE NEIGHBOUR: 'it returns false'. Refute it at one input. -/
def gcmSealsWrong : ChangeSpec := { name := "gcmSeals", fn := fun _ => fun
  | [d1, d2, d3, d4] => { results := [.lit (.bool false)], args := [d1, d2, d3, d4] }
  | _ => none }
def GcmSealsWrongFalsely : Prop := gcmSealsRow.holds Try.pinned (OpenSpec.ofChange gcmSealsWrong)

/-- 'thimblelaw08.GcmKnown': WHATEVER THE INPUT: true; the input reads as it did. -/
def gcmKnownSpec : ChangeSpec := { name := "gcmKnown", fn := fun _ => fun
  | [] => { results := [.lit (.bool true)], args := [] }
  | _ => none }
def gcmKnownRow : OpenClaim := { program := "ytpeibkdcglkimaa", sum := "de79a4d22d24bdfa688e8a59d883ddf2f89a0387fbcd0d843f5902801b65e9df", func := "thimble/thimblelaw08.GcmKnown", spec := "gcmKnown", unfollowed := true, recurses := true, apart := false }
def GcmKnownSaid : Prop := gcmKnownRow.holds Try.pinned (OpenSpec.ofChange gcmKnownSpec)

/-- ITS FALSE NEIGHBOUR: 'it returns false'. Refute it at one input. -/
def gcmKnownWrong : ChangeSpec := { name := "gcmKnown", fn := fun _ => fun
  | [] => { results := [.lit (.bool false)], args := [] }
  | _ => none }
def GcmKnownWrongFalsely : Prop := gcmKnownRow.holds Try.pinned (OpenSpec.ofChange gcmKnownWrong)

/-- 'thimblelaw08.GcmOpens': WHATEVER THE INPUT: true; the input reads as it did. -/
def gcmOpensSpec : ChangeSpec := { name := "gcmOpens", fn := fun _ => fun
  | [d1, d2, d3, d4] => { results := [.lit (.bool true)], args := [d1, d2, d3, d4] }
  | _ => none }
def gcmOpensRow : OpenClaim := { program := "ytpeibkdcglkimaa", sum := "de79a4d22d24bdfa688e8a59d883ddf2f89a0387fbcd0d843f5902801b65e9df", func := "thimble/thimblelaw08.GcmOpens", spec := "gcmOpens", unfollowed := true, recurses := true, apart := false }
def GcmOpensSaid : Prop := gcmOpensRow.holds Try.pinned (OpenSpec.ofChange gcmOpensSpec)

/-- ITS FALSE NEIGHBOUR: 'it returns false'. Refute it at one input. -/
def gcmOpensWrong : ChangeSpec := { name := "gcmOpens", fn := fun _ => fun
  | [d1, d2, d3, d4] => { results := [.lit (.bool false)], args := [d1, d2, d3, d4] }
  | _ => none }
def GcmOpensWrongFalsely : Prop := gcmOpensRow.holds Try.pinned (OpenSpec.ofChange gcmOpensWrong)

/-- 'thimblelaw08.GcmBack': WHATEVER THE INPUT: true; the input reads as it did. -/
def gcmBackSpec : ChangeSpec := { name := "gcmBack", fn := fun _ => fun
  | [d1, d2, d3, d4] => { results := [.lit (.bool true)], args := [d1, d2, d3, d4] }
  | _ => none }
def gcmBackRow : OpenClaim := { program := "ytpeibkdcglkimaa", sum := "de79a4d22d24bdfa688e8a59d883ddf2f89a0387fbcd0d843f5902801b65e9df", func := "thimble/thimblelaw08.GcmBack", spec := "gcmBack", unfollowed := true, recurses := true, apart := false }
def GcmBackSaid : Prop := gcmBackRow.holds Try.pinned (OpenSpec.ofChange gcmBackSpec)

/-- ITS FALSE NEIGHBOUR: 'it returns false'. Refute it at one input. -/
def gcmBackWrong : ChangeSpec := { name := "gcmBack", fn := fun _ => fun
  | [d1, d2, d3, d4] => { results := [.lit (.bool false)], args := [d1, d2, d3, d4] }
  | _ => none }
def GcmBackWrongFalsely : Prop := gcmBackRow.holds Try.pinned (OpenSpec.ofChange gcmBackWrong)

/-- 'thimblelaw08.GcmTurned': WHATEVER THE INPUT: true; the input reads as it did. -/
def gcmTurnedSpec : ChangeSpec := { name := "gcmTurned", fn := fun _ => fun
  | [d1, d2, d3, d4, d5, d6] => { results := [.lit (.bool true)], args := [d1, d2, d3, d4, d5, d6] }
  | _ => none }
def gcmTurnedRow : OpenClaim := { program := "ytpeibkdcglkimaa", sum := "de79a4d22d24bdfa688e8a59d883ddf2f89a0387fbcd0d843f5902801b65e9df", func := "thimble/thimblelaw08.GcmTurned", spec := "gcmTurned", unfollowed := true, recurses := true, apart := false }
def GcmTurnedSaid : Prop := gcmTurnedRow.holds Try.pinned (OpenSpec.ofChange gcmTurnedSpec)

/-- ITS FALSE NEIGHBOUR: 'it returns false'. Refute it at one input. -/
def gcmTurnedWrong : ChangeSpec := { name := "gcmTurned", fn := fun _ => fun
  | [d1, d2, d3, d4, d5, d6] => { results := [.lit (.bool false)], args := [d1, d2, d3, d4, d5, d6] }
  | _ => none }
def GcmTurnedWrongFalsely : Prop := gcmTurnedRow.holds Try.pinned (OpenSpec.ofChange gcmTurnedWrong)

/-- 'thimblelaw08.GcmShort': WHATEVER THE INPUT: true; the input reads as it did. -/
def gcmShortSpec : ChangeSpec := { name := "gcmShort", fn := fun _ => fun
  | [d1, d2, d3, d4] => { results := [.lit (.bool true)], args := [d1, d2, d3, d4] }
  | _ => none }
def gcmShortRow : OpenClaim := { program := "ytpeibkdcglkimaa", sum := "de79a4d22d24bdfa688e8a59d883ddf2f89a0387fbcd0d843f5902801b65e9df", func := "thimble/thimblelaw08.GcmShort", spec := "gcmShort", unfollowed := true, recurses := true, apart := false }
def GcmShortSaid : Prop := gcmShortRow.holds Try.pinned (OpenSpec.ofChange gcmShortSpec)

/-- ITS FALSE NEIGHBOUR: 'it returns false'. Refute it at one input. -/
def gcmShortWrong : ChangeSpec := { name := "gcmShort", fn := fun _ => fun
  | [d1, d2, d3, d4] => { results := [.lit (.bool false)], args := [d1, d2, d3, d4] }
  | _ => none }
def GcmShortWrongFalsely : Prop := gcmShortRow.holds Try.pinned (OpenSpec.ofChange gcmShortWrong)

/- THE SECOND FORM. 'bulk': how many values and letters a reading holds, each counted each time it is reached (what is shared counts as often as it is met; a slice's spare places count too). A statement '..UptoSaid' is the law's where the arguments, and the package variables that the reading takes, are together of bulk at most 1048576: NARROWER than '..Said'. Prove '..Said' where nothing that the law and all that it calls make is longer than what came in: it says more and counts as full. Else prove '..UptoSaid'. A law counts once. -/
mutual
def uptoBulk {H : Type} : DataW H → Nat
  | .lit (.string bytes) => bytes.length + 1
  | .lit _ => 1
  | .nil => 1
  | .ptr d => uptoBulk d + 1
  | .slice elems spare => uptoBulkAll elems + uptoBulkAll spare + 1
  | .agg parts => uptoBulkAll parts + 1
  | .iface _ d => uptoBulk d + 1
  | .map entries => uptoBulkEntries entries + 1
  | .held _ => 1
def uptoBulkAll {H : Type} : List (DataW H) → Nat
  | [] => 0
  | d :: r => uptoBulk d + uptoBulkAll r
def uptoBulkEntries {H : Type} : List (Lit × DataW H) → Nat
  | [] => 0
  | x :: r => uptoBulkEntry x + uptoBulkEntries r
def uptoBulkEntry {H : Type} : Lit × DataW H → Nat
  | (.string bytes, d) => bytes.length + uptoBulk d + 1
  | (_, d) => uptoBulk d + 1
 end
def uptoSmall : (H : Type) → List (DataW H) → Bool := fun _ ds => decide (uptoBulkAll ds ≤ 1048576)
def OpenSpec.upto (s : _root_.Go.ChangeSpec) : _root_.Go.OpenSpec := { _root_.Go.OpenSpec.ofChange s with cond := some uptoSmall }

/-- 'thimblelaw08.GcmSeals', WHERE WHAT IT READS IS OF BULK AT MOST 1048576: true; the input reads as it did. -/
def gcmSealsUptoRow : OpenClaim := { program := "ytpeibkdcglkimaa", sum := "de79a4d22d24bdfa688e8a59d883ddf2f89a0387fbcd0d843f5902801b65e9df", func := "thimble/thimblelaw08.GcmSeals", spec := "gcmSeals", unfollowed := true, recurses := true, apart := false, narrowed := true }
def GcmSealsUptoSaid : Prop := gcmSealsUptoRow.holds Try.pinned (OpenSpec.upto gcmSealsSpec)

/-- 'thimblelaw08.GcmKnown', WHERE WHAT IT READS IS OF BULK AT MOST 1048576: true; the input reads as it did. -/
def gcmKnownUptoRow : OpenClaim := { program := "ytpeibkdcglkimaa", sum := "de79a4d22d24bdfa688e8a59d883ddf2f89a0387fbcd0d843f5902801b65e9df", func := "thimble/thimblelaw08.GcmKnown", spec := "gcmKnown", unfollowed := true, recurses := true, apart := false, narrowed := true }
def GcmKnownUptoSaid : Prop := gcmKnownUptoRow.holds Try.pinned (OpenSpec.upto gcmKnownSpec)

/-- 'thimblelaw08.GcmOpens', WHERE WHAT IT READS IS OF BULK AT MOST 1048576: true; the input reads as it did. -/
def gcmOpensUptoRow : OpenClaim := { program := "ytpeibkdcglkimaa", sum := "de79a4d22d24bdfa688e8a59d883ddf2f89a0387fbcd0d843f5902801b65e9df", func := "thimble/thimblelaw08.GcmOpens", spec := "gcmOpens", unfollowed := true, recurses := true, apart := false, narrowed := true }
def GcmOpensUptoSaid : Prop := gcmOpensUptoRow.holds Try.pinned (OpenSpec.upto gcmOpensSpec)

/-- 'thimblelaw08.GcmBack', WHERE WHAT IT READS IS OF BULK AT MOST 1048576: true; the input reads as it did. -/
def gcmBackUptoRow : OpenClaim := { program := "ytpeibkdcglkimaa", sum := "de79a4d22d24bdfa688e8a59d883ddf2f89a0387fbcd0d843f5902801b65e9df", func := "thimble/thimblelaw08.GcmBack", spec := "gcmBack", unfollowed := true, recurses := true, apart := false, narrowed := true }
def GcmBackUptoSaid : Prop := gcmBackUptoRow.holds Try.pinned (OpenSpec.upto gcmBackSpec)

/-- 'thimblelaw08.GcmTurned', WHERE WHAT IT READS IS OF BULK AT MOST 1048576: true; the input reads as it did. -/
def gcmTurnedUptoRow : OpenClaim := { program := "ytpeibkdcglkimaa", sum := "de79a4d22d24bdfa688e8a59d883ddf2f89a0387fbcd0d843f5902801b65e9df", func := "thimble/thimblelaw08.GcmTurned", spec := "gcmTurned", unfollowed := true, recurses := true, apart := false, narrowed := true }
def GcmTurnedUptoSaid : Prop := gcmTurnedUptoRow.holds Try.pinned (OpenSpec.upto gcmTurnedSpec)

/-- 'thimblelaw08.GcmShort', WHERE WHAT IT READS IS OF BULK AT MOST 1048576: true; the input reads as it did. -/
def gcmShortUptoRow : OpenClaim := { program := "ytpeibkdcglkimaa", sum := "de79a4d22d24bdfa688e8a59d883ddf2f89a0387fbcd0d843f5902801b65e9df", func := "thimble/thimblelaw08.GcmShort", spec := "gcmShort", unfollowed := true, recurses := true, apart := false, narrowed := true }
def GcmShortUptoSaid : Prop := gcmShortUptoRow.holds Try.pinned (OpenSpec.upto gcmShortSpec)

end Rows
end Go.Proofs.Ytpeibkdcglkimaa
