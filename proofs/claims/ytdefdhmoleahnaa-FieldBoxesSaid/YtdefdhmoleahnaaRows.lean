/-
  No cell of these rows narrows 'for every input' (looked for: loops, veiled, ifaces, maps, wideKeys, modest, calm, conditions, laid).
  DERIVED. THE GIVEN ROWS OF THIS SEAT. 10 by the template 'for every input the law returns true; each argument reads behind the call as it read before'; 0 by the template 'total and deterministic' (their statements: YtdefdhmoleahnaaTotals.lean).
  GIVEN WITH THE SEED: the statements are not yours to turn. If you find one false, say at which input.
  Laid BY PROGRAM, IN A SANDBOX (cutbox-rows.mjs): the forced cells as the released guide's own fill.sh prints them over the translation eed973db56394f59… (all of the seat's roots in one cut). By AI agents, Wed Nov 11 2026. No macro, syntax, notation, axiom, sorry.
-/
import Derived.Test.YtdefdhmoleahnaaChecked
import GoSem.Claim
import GoSem.ClaimJoined
import GoSem.ClaimMapViews
import Derived.JoinedTies
import Derived.KernelRfl
namespace Go.Proofs.Ytdefdhmoleahnaa
/- THE CELL 'sum', in the pinned program and in every row, IS THE sha256 OF THE DUMP (.gsa) THAT YtdefdhmoleahnaaProg.lean LOADS. Nothing in Lean hashes anything: it is a label: what it is worth is what the hold of that sum in a sandbox is worth. -/
noncomputable def Try.pinned : Pinned := { name := "ytdefdhmoleahnaa", sum := "eed973db56394f597d2267c4577371796f777a78bf70c347d20e5bfe65f6dcda", checked := Try.checked }
namespace Rows
def none {H : Type} : Left H := { results := [], args := [] }

/-- 'thimblelaw05.FieldTimes': WHATEVER THE INPUT: true; the input reads as it did. -/
def fieldTimesSpec : ChangeSpec := { name := "fieldTimes", fn := fun _ => fun
  | [d1, d2] => { results := [.lit (.bool true)], args := [d1, d2] }
  | _ => none }
def fieldTimesRow : OpenClaim := { program := "ytdefdhmoleahnaa", sum := "eed973db56394f597d2267c4577371796f777a78bf70c347d20e5bfe65f6dcda", func := "thimble/thimblelaw05.FieldTimes", spec := "fieldTimes", apart := false }
def FieldTimesSaid : Prop := fieldTimesRow.holds Try.pinned (OpenSpec.ofChange fieldTimesSpec)

/-- ITS FALSE NEIGHBOUR: 'it returns false'. Refute it at one input. -/
def fieldTimesWrong : ChangeSpec := { name := "fieldTimes", fn := fun _ => fun
  | [d1, d2] => { results := [.lit (.bool false)], args := [d1, d2] }
  | _ => none }
def FieldTimesWrongFalsely : Prop := fieldTimesRow.holds Try.pinned (OpenSpec.ofChange fieldTimesWrong)

/-- 'thimblelaw05.FieldRing': WHATEVER THE INPUT: true; the input reads as it did. -/
def fieldRingSpec : ChangeSpec := { name := "fieldRing", fn := fun _ => fun
  | [d1, d2, d3] => { results := [.lit (.bool true)], args := [d1, d2, d3] }
  | _ => none }
def fieldRingRow : OpenClaim := { program := "ytdefdhmoleahnaa", sum := "eed973db56394f597d2267c4577371796f777a78bf70c347d20e5bfe65f6dcda", func := "thimble/thimblelaw05.FieldRing", spec := "fieldRing", apart := false }
def FieldRingSaid : Prop := fieldRingRow.holds Try.pinned (OpenSpec.ofChange fieldRingSpec)

/-- ITS FALSE NEIGHBOUR: 'it returns false'. Refute it at one input. -/
def fieldRingWrong : ChangeSpec := { name := "fieldRing", fn := fun _ => fun
  | [d1, d2, d3] => { results := [.lit (.bool false)], args := [d1, d2, d3] }
  | _ => none }
def FieldRingWrongFalsely : Prop := fieldRingRow.holds Try.pinned (OpenSpec.ofChange fieldRingWrong)

/-- 'thimblelaw21.NonceRuns': WHATEVER THE INPUT: true; the input reads as it did. -/
def nonceRunsSpec : ChangeSpec := { name := "nonceRuns", fn := fun _ => fun
  | [d1, d2, d3] => { results := [.lit (.bool true)], args := [d1, d2, d3] }
  | _ => none }
def nonceRunsRow : OpenClaim := { program := "ytdefdhmoleahnaa", sum := "eed973db56394f597d2267c4577371796f777a78bf70c347d20e5bfe65f6dcda", func := "thimble/thimblelaw21.NonceRuns", spec := "nonceRuns", apart := false }
def NonceRunsSaid : Prop := nonceRunsRow.holds Try.pinned (OpenSpec.ofChange nonceRunsSpec)

/-- ITS FALSE NEIGHBOUR: 'it returns false'. Refute it at one input. -/
def nonceRunsWrong : ChangeSpec := { name := "nonceRuns", fn := fun _ => fun
  | [d1, d2, d3] => { results := [.lit (.bool false)], args := [d1, d2, d3] }
  | _ => none }
def NonceRunsWrongFalsely : Prop := nonceRunsRow.holds Try.pinned (OpenSpec.ofChange nonceRunsWrong)

/-- 'thimblelaw21.NonceEnds': WHATEVER THE INPUT: true; the input reads as it did. -/
def nonceEndsSpec : ChangeSpec := { name := "nonceEnds", fn := fun _ => fun
  | [d1, d2, d3] => { results := [.lit (.bool true)], args := [d1, d2, d3] }
  | _ => none }
def nonceEndsRow : OpenClaim := { program := "ytdefdhmoleahnaa", sum := "eed973db56394f597d2267c4577371796f777a78bf70c347d20e5bfe65f6dcda", func := "thimble/thimblelaw21.NonceEnds", spec := "nonceEnds", apart := false }
def NonceEndsSaid : Prop := nonceEndsRow.holds Try.pinned (OpenSpec.ofChange nonceEndsSpec)

/-- ITS FALSE NEIGHBOUR: 'it returns false'. Refute it at one input. -/
def nonceEndsWrong : ChangeSpec := { name := "nonceEnds", fn := fun _ => fun
  | [d1, d2, d3] => { results := [.lit (.bool false)], args := [d1, d2, d3] }
  | _ => none }
def NonceEndsWrongFalsely : Prop := nonceEndsRow.holds Try.pinned (OpenSpec.ofChange nonceEndsWrong)

/-- 'thimblelaw21.NonceNil': WHATEVER THE INPUT: true; the input reads as it did. -/
def nonceNilSpec : ChangeSpec := { name := "nonceNil", fn := fun _ => fun
  | [d] => { results := [.lit (.bool true)], args := [d] }
  | _ => none }
def nonceNilRow : OpenClaim := { program := "ytdefdhmoleahnaa", sum := "eed973db56394f597d2267c4577371796f777a78bf70c347d20e5bfe65f6dcda", func := "thimble/thimblelaw21.NonceNil", spec := "nonceNil", apart := false }
def NonceNilSaid : Prop := nonceNilRow.holds Try.pinned (OpenSpec.ofChange nonceNilSpec)

/-- ITS FALSE NEIGHBOUR: 'it returns false'. Refute it at one input. -/
def nonceNilWrong : ChangeSpec := { name := "nonceNil", fn := fun _ => fun
  | [d] => { results := [.lit (.bool false)], args := [d] }
  | _ => none }
def NonceNilWrongFalsely : Prop := nonceNilRow.holds Try.pinned (OpenSpec.ofChange nonceNilWrong)

/-- 'thimblelaw05.FieldPowers': WHATEVER THE INPUT: true; the input reads as it did. -/
def fieldPowersSpec : ChangeSpec := { name := "fieldPowers", fn := fun _ => fun
  | [d1, d2, d3] => { results := [.lit (.bool true)], args := [d1, d2, d3] }
  | _ => none }
def fieldPowersRow : OpenClaim := { program := "ytdefdhmoleahnaa", sum := "eed973db56394f597d2267c4577371796f777a78bf70c347d20e5bfe65f6dcda", func := "thimble/thimblelaw05.FieldPowers", spec := "fieldPowers", apart := false }
def FieldPowersSaid : Prop := fieldPowersRow.holds Try.pinned (OpenSpec.ofChange fieldPowersSpec)

/-- ITS FALSE NEIGHBOUR: 'it returns false'. Refute it at one input. -/
def fieldPowersWrong : ChangeSpec := { name := "fieldPowers", fn := fun _ => fun
  | [d1, d2, d3] => { results := [.lit (.bool false)], args := [d1, d2, d3] }
  | _ => none }
def FieldPowersWrongFalsely : Prop := fieldPowersRow.holds Try.pinned (OpenSpec.ofChange fieldPowersWrong)

/-- 'thimblelaw05.FieldInverses': WHATEVER THE INPUT: true; the input reads as it did. -/
def fieldInversesSpec : ChangeSpec := { name := "fieldInverses", fn := fun _ => fun
  | [d] => { results := [.lit (.bool true)], args := [d] }
  | _ => none }
def fieldInversesRow : OpenClaim := { program := "ytdefdhmoleahnaa", sum := "eed973db56394f597d2267c4577371796f777a78bf70c347d20e5bfe65f6dcda", func := "thimble/thimblelaw05.FieldInverses", spec := "fieldInverses", apart := false }
def FieldInversesSaid : Prop := fieldInversesRow.holds Try.pinned (OpenSpec.ofChange fieldInversesSpec)

/-- ITS FALSE NEIGHBOUR: 'it returns false'. Refute it at one input. -/
def fieldInversesWrong : ChangeSpec := { name := "fieldInverses", fn := fun _ => fun
  | [d] => { results := [.lit (.bool false)], args := [d] }
  | _ => none }
def FieldInversesWrongFalsely : Prop := fieldInversesRow.holds Try.pinned (OpenSpec.ofChange fieldInversesWrong)

/-- 'thimblelaw21.NonceOnce': WHATEVER THE INPUT: true; the input reads as it did. -/
def nonceOnceSpec : ChangeSpec := { name := "nonceOnce", fn := fun _ => fun
  | [d1, d2, d3, d4, d5] => { results := [.lit (.bool true)], args := [d1, d2, d3, d4, d5] }
  | _ => none }
def nonceOnceRow : OpenClaim := { program := "ytdefdhmoleahnaa", sum := "eed973db56394f597d2267c4577371796f777a78bf70c347d20e5bfe65f6dcda", func := "thimble/thimblelaw21.NonceOnce", spec := "nonceOnce", apart := false }
def NonceOnceSaid : Prop := nonceOnceRow.holds Try.pinned (OpenSpec.ofChange nonceOnceSpec)

/-- ITS FALSE NEIGHBOUR: 'it returns false'. Refute it at one input. -/
def nonceOnceWrong : ChangeSpec := { name := "nonceOnce", fn := fun _ => fun
  | [d1, d2, d3, d4, d5] => { results := [.lit (.bool false)], args := [d1, d2, d3, d4, d5] }
  | _ => none }
def NonceOnceWrongFalsely : Prop := nonceOnceRow.holds Try.pinned (OpenSpec.ofChange nonceOnceWrong)

/-- 'thimblelaw05.FieldBoxes': WHATEVER THE INPUT: true; the input reads as it did. -/
def fieldBoxesSpec : ChangeSpec := { name := "fieldBoxes", fn := fun _ => fun
  | [d] => { results := [.lit (.bool true)], args := [d] }
  | _ => none }
def fieldBoxesRow : OpenClaim := { program := "ytdefdhmoleahnaa", sum := "eed973db56394f597d2267c4577371796f777a78bf70c347d20e5bfe65f6dcda", func := "thimble/thimblelaw05.FieldBoxes", spec := "fieldBoxes", apart := false }
def FieldBoxesSaid : Prop := fieldBoxesRow.holds Try.pinned (OpenSpec.ofChange fieldBoxesSpec)

/-- ITS FALSE NEIGHBOUR: 'it returns false'. Refute it at one input. -/
def fieldBoxesWrong : ChangeSpec := { name := "fieldBoxes", fn := fun _ => fun
  | [d] => { results := [.lit (.bool false)], args := [d] }
  | _ => none }
def FieldBoxesWrongFalsely : Prop := fieldBoxesRow.holds Try.pinned (OpenSpec.ofChange fieldBoxesWrong)

/-- 'thimblelaw05.FieldMixes': WHATEVER THE INPUT: true; the input reads as it did. -/
def fieldMixesSpec : ChangeSpec := { name := "fieldMixes", fn := fun _ => fun
  | [d] => { results := [.lit (.bool true)], args := [d] }
  | _ => none }
def fieldMixesRow : OpenClaim := { program := "ytdefdhmoleahnaa", sum := "eed973db56394f597d2267c4577371796f777a78bf70c347d20e5bfe65f6dcda", func := "thimble/thimblelaw05.FieldMixes", spec := "fieldMixes", apart := false }
def FieldMixesSaid : Prop := fieldMixesRow.holds Try.pinned (OpenSpec.ofChange fieldMixesSpec)

/-- ITS FALSE NEIGHBOUR: 'it returns false'. Refute it at one input. -/
def fieldMixesWrong : ChangeSpec := { name := "fieldMixes", fn := fun _ => fun
  | [d] => { results := [.lit (.bool false)], args := [d] }
  | _ => none }
def FieldMixesWrongFalsely : Prop := fieldMixesRow.holds Try.pinned (OpenSpec.ofChange fieldMixesWrong)

/- THE SECOND FORM. 'bulk': how many values and letters a reading holds, each counted each time it is reached (what is shared counts as often as it is met; a slice's spare places count too). A statement '..UptoSaid' is the law's where the arguments, and the package variables that the reading takes, are together of bulk at most 1048576: NARROWER than '..Said'. Prove '..Said' where nothing that the law and all that it calls make is longer than what came in: it says more and counts as full. Else prove '..UptoSaid'. A law counts once. -/
mutual
def uptoBulk {H : Type} : DataW H → Nat
  | .lit (.string bytes) => bytes.length + 1
  | .lit _ => 1
  | .nil => 1
  | .ptr d => uptoBulk d + 1
  | .slice elems spare => uptoBulkAll elems + uptoBulkAll spare + 1
  | .agg parts => uptoBulkAll parts + 1
  | .iface _ d => uptoBulk d + 1
  | .map entries => uptoBulkEntries entries + 1
  | .held _ => 1
def uptoBulkAll {H : Type} : List (DataW H) → Nat
  | [] => 0
  | d :: r => uptoBulk d + uptoBulkAll r
def uptoBulkEntries {H : Type} : List (Lit × DataW H) → Nat
  | [] => 0
  | x :: r => uptoBulkEntry x + uptoBulkEntries r
def uptoBulkEntry {H : Type} : Lit × DataW H → Nat
  | (.string bytes, d) => bytes.length + uptoBulk d + 1
  | (_, d) => uptoBulk d + 1
 end
def uptoSmall : (H : Type) → List (DataW H) → Bool := fun _ ds => decide (uptoBulkAll ds ≤ 1048576)
def OpenSpec.upto (s : _root_.Go.ChangeSpec) : _root_.Go.OpenSpec := { _root_.Go.OpenSpec.ofChange s with cond := some uptoSmall }

/-- 'thimblelaw05.FieldTimes', WHERE WHAT IT READS IS OF BULK AT MOST 1048576: true; the input reads as it did. -/
def fieldTimesUptoRow : OpenClaim := { program := "ytdefdhmoleahnaa", sum := "eed973db56394f597d2267c4577371796f777a78bf70c347d20e5bfe65f6dcda", func := "thimble/thimblelaw05.FieldTimes", spec := "fieldTimes", apart := false, narrowed := true }
def FieldTimesUptoSaid : Prop := fieldTimesUptoRow.holds Try.pinned (OpenSpec.upto fieldTimesSpec)

/-- 'thimblelaw05.FieldRing', WHERE WHAT IT READS IS OF BULK AT MOST 1048576: true; the input reads as it did. -/
def fieldRingUptoRow : OpenClaim := { program := "ytdefdhmoleahnaa", sum := "eed973db56394f597d2267c4577371796f777a78bf70c347d20e5bfe65f6dcda", func := "thimble/thimblelaw05.FieldRing", spec := "fieldRing", apart := false, narrowed := true }
def FieldRingUptoSaid : Prop := fieldRingUptoRow.holds Try.pinned (OpenSpec.upto fieldRingSpec)

/-- 'thimblelaw21.NonceRuns', WHERE WHAT IT READS IS OF BULK AT MOST 1048576: true; the input reads as it did. -/
def nonceRunsUptoRow : OpenClaim := { program := "ytdefdhmoleahnaa", sum := "eed973db56394f597d2267c4577371796f777a78bf70c347d20e5bfe65f6dcda", func := "thimble/thimblelaw21.NonceRuns", spec := "nonceRuns", apart := false, narrowed := true }
def NonceRunsUptoSaid : Prop := nonceRunsUptoRow.holds Try.pinned (OpenSpec.upto nonceRunsSpec)

/-- 'thimblelaw21.NonceEnds', WHERE WHAT IT READS IS OF BULK AT MOST 1048576: true; the input reads as it did. -/
def nonceEndsUptoRow : OpenClaim := { program := "ytdefdhmoleahnaa", sum := "eed973db56394f597d2267c4577371796f777a78bf70c347d20e5bfe65f6dcda", func := "thimble/thimblelaw21.NonceEnds", spec := "nonceEnds", apart := false, narrowed := true }
def NonceEndsUptoSaid : Prop := nonceEndsUptoRow.holds Try.pinned (OpenSpec.upto nonceEndsSpec)

/-- 'thimblelaw21.NonceNil', WHERE WHAT IT READS IS OF BULK AT MOST 1048576: true; the input reads as it did. -/
def nonceNilUptoRow : OpenClaim := { program := "ytdefdhmoleahnaa", sum := "eed973db56394f597d2267c4577371796f777a78bf70c347d20e5bfe65f6dcda", func := "thimble/thimblelaw21.NonceNil", spec := "nonceNil", apart := false, narrowed := true }
def NonceNilUptoSaid : Prop := nonceNilUptoRow.holds Try.pinned (OpenSpec.upto nonceNilSpec)

/-- 'thimblelaw05.FieldPowers', WHERE WHAT IT READS IS OF BULK AT MOST 1048576: true; the input reads as it did. -/
def fieldPowersUptoRow : OpenClaim := { program := "ytdefdhmoleahnaa", sum := "eed973db56394f597d2267c4577371796f777a78bf70c347d20e5bfe65f6dcda", func := "thimble/thimblelaw05.FieldPowers", spec := "fieldPowers", apart := false, narrowed := true }
def FieldPowersUptoSaid : Prop := fieldPowersUptoRow.holds Try.pinned (OpenSpec.upto fieldPowersSpec)

/-- 'thimblelaw05.FieldInverses', WHERE WHAT IT READS IS OF BULK AT MOST 1048576: true; the input reads as it did. -/
def fieldInversesUptoRow : OpenClaim := { program := "ytdefdhmoleahnaa", sum := "eed973db56394f597d2267c4577371796f777a78bf70c347d20e5bfe65f6dcda", func := "thimble/thimblelaw05.FieldInverses", spec := "fieldInverses", apart := false, narrowed := true }
def FieldInversesUptoSaid : Prop := fieldInversesUptoRow.holds Try.pinned (OpenSpec.upto fieldInversesSpec)

/-- 'thimblelaw21.NonceOnce', WHERE WHAT IT READS IS OF BULK AT MOST 1048576: true; the input reads as it did. -/
def nonceOnceUptoRow : OpenClaim := { program := "ytdefdhmoleahnaa", sum := "eed973db56394f597d2267c4577371796f777a78bf70c347d20e5bfe65f6dcda", func := "thimble/thimblelaw21.NonceOnce", spec := "nonceOnce", apart := false, narrowed := true }
def NonceOnceUptoSaid : Prop := nonceOnceUptoRow.holds Try.pinned (OpenSpec.upto nonceOnceSpec)

/-- 'thimblelaw05.FieldBoxes', WHERE WHAT IT READS IS OF BULK AT MOST 1048576: true; the input reads as it did. -/
def fieldBoxesUptoRow : OpenClaim := { program := "ytdefdhmoleahnaa", sum := "eed973db56394f597d2267c4577371796f777a78bf70c347d20e5bfe65f6dcda", func := "thimble/thimblelaw05.FieldBoxes", spec := "fieldBoxes", apart := false, narrowed := true }
def FieldBoxesUptoSaid : Prop := fieldBoxesUptoRow.holds Try.pinned (OpenSpec.upto fieldBoxesSpec)

/-- 'thimblelaw05.FieldMixes', WHERE WHAT IT READS IS OF BULK AT MOST 1048576: true; the input reads as it did. -/
def fieldMixesUptoRow : OpenClaim := { program := "ytdefdhmoleahnaa", sum := "eed973db56394f597d2267c4577371796f777a78bf70c347d20e5bfe65f6dcda", func := "thimble/thimblelaw05.FieldMixes", spec := "fieldMixes", apart := false, narrowed := true }
def FieldMixesUptoSaid : Prop := fieldMixesUptoRow.holds Try.pinned (OpenSpec.upto fieldMixesSpec)

end Rows
end Go.Proofs.Ytdefdhmoleahnaa
