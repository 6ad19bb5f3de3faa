/-
  No cell of these rows narrows 'for every input' (looked for: loops, veiled, ifaces, maps, wideKeys, modest, calm, conditions, laid).
  DERIVED. THE GIVEN ROWS OF THIS SEAT. 11 by the template 'for every input the law returns true; each argument reads behind the call as it read before'; 0 by the template 'total and deterministic' (their statements: YtogcckedelkpbaaTotals.lean).
  GIVEN WITH THE SEED: the statements are not yours to turn. If you find one false, say at which input.
  Laid BY PROGRAM, IN A SANDBOX (cutbox-rows.mjs): the forced cells as the released guide's own fill.sh prints them over the translation 3ca11be388c0b84d… (all of the seat's roots in one cut). By AI agents, Wed Nov 11 2026. No macro, syntax, notation, axiom, sorry.
-/
import Derived.Test.YtogcckedelkpbaaChecked
import GoSem.Claim
import GoSem.ClaimJoined
import GoSem.ClaimMapViews
import Derived.JoinedTies
import Derived.KernelRfl
namespace Go.Proofs.Ytogcckedelkpbaa
/- THE CELL 'sum', in the pinned program and in every row, IS THE sha256 OF THE DUMP (.gsa) THAT YtogcckedelkpbaaProg.lean LOADS. Nothing in Lean hashes anything: it is a label: what it is worth is what the hold of that sum in a sandbox is worth. -/
noncomputable def Try.pinned : Pinned := { name := "ytogcckedelkpbaa", sum := "3ca11be388c0b84db961573d15597aced9b3fd480e9598b21a7b2991ca1c2a93", checked := Try.checked }
namespace Rows
def none {H : Type} : Left H := { results := [], args := [] }

/-- 'thimblelaw17.CountPacks': WHATEVER THE INPUT: true; the input reads as it did. -/
def countPacksSpec : ChangeSpec := { name := "countPacks", fn := fun _ => fun
  | [d] => { results := [.lit (.bool true)], args := [d] }
  | _ => none }
def countPacksRow : OpenClaim := { program := "ytogcckedelkpbaa", sum := "3ca11be388c0b84db961573d15597aced9b3fd480e9598b21a7b2991ca1c2a93", func := "thimble/thimblelaw17.CountPacks", spec := "countPacks", apart := false }
def CountPacksSaid : Prop := countPacksRow.holds Try.pinned (OpenSpec.ofChange countPacksSpec)

/-- ITS FALSE NEIGHBOUR: 'it returns false'. Refute it at one input. -/
def countPacksWrong : ChangeSpec := { name := "countPacks", fn := fun _ => fun
  | [d] => { results := [.lit (.bool false)], args := [d] }
  | _ => none }
def CountPacksWrongFalsely : Prop := countPacksRow.holds Try.pinned (OpenSpec.ofChange countPacksWrong)

/-- 'thimblelaw17.CountNonces': WHATEVER THE INPUT: true; the input reads as it did. -/
def countNoncesSpec : ChangeSpec := { name := "countNonces", fn := fun _ => fun
  | [d1, d2] => { results := [.lit (.bool true)], args := [d1, d2] }
  | _ => none }
def countNoncesRow : OpenClaim := { program := "ytogcckedelkpbaa", sum := "3ca11be388c0b84db961573d15597aced9b3fd480e9598b21a7b2991ca1c2a93", func := "thimble/thimblelaw17.CountNonces", spec := "countNonces", apart := false }
def CountNoncesSaid : Prop := countNoncesRow.holds Try.pinned (OpenSpec.ofChange countNoncesSpec)

/-- ITS FALSE NEIGHBOUR: 'it returns false'. Refute it at one input. -/
def countNoncesWrong : ChangeSpec := { name := "countNonces", fn := fun _ => fun
  | [d1, d2] => { results := [.lit (.bool false)], args := [d1, d2] }
  | _ => none }
def CountNoncesWrongFalsely : Prop := countNoncesRow.holds Try.pinned (OpenSpec.ofChange countNoncesWrong)

/-- 'thimblelaw02.RowPuts': WHATEVER THE INPUT: true; the input reads as it did. -/
def rowPutsSpec : ChangeSpec := { name := "rowPuts", fn := fun _ => fun
  | [d1, d2, d3] => { results := [.lit (.bool true)], args := [d1, d2, d3] }
  | _ => none }
def rowPutsRow : OpenClaim := { program := "ytogcckedelkpbaa", sum := "3ca11be388c0b84db961573d15597aced9b3fd480e9598b21a7b2991ca1c2a93", func := "thimble/thimblelaw02.RowPuts", spec := "rowPuts", unfollowed := true, recurses := true, apart := false }
def RowPutsSaid : Prop := rowPutsRow.holds Try.pinned (OpenSpec.ofChange rowPutsSpec)

/-- ITS FALSE NEIGHBOUR: 'it returns false'. Refute it at one input. -/
def rowPutsWrong : ChangeSpec := { name := "rowPuts", fn := fun _ => fun
  | [d1, d2, d3] => { results := [.lit (.bool false)], args := [d1, d2, d3] }
  | _ => none }
def RowPutsWrongFalsely : Prop := rowPutsRow.holds Try.pinned (OpenSpec.ofChange rowPutsWrong)

/-- 'thimblelaw02.RowJoins': WHATEVER THE INPUT: true; the input reads as it did. -/
def rowJoinsSpec : ChangeSpec := { name := "rowJoins", fn := fun _ => fun
  | [d1, d2, d3] => { results := [.lit (.bool true)], args := [d1, d2, d3] }
  | _ => none }
def rowJoinsRow : OpenClaim := { program := "ytogcckedelkpbaa", sum := "3ca11be388c0b84db961573d15597aced9b3fd480e9598b21a7b2991ca1c2a93", func := "thimble/thimblelaw02.RowJoins", spec := "rowJoins", unfollowed := true, recurses := true, apart := false }
def RowJoinsSaid : Prop := rowJoinsRow.holds Try.pinned (OpenSpec.ofChange rowJoinsSpec)

/-- ITS FALSE NEIGHBOUR: 'it returns false'. Refute it at one input. -/
def rowJoinsWrong : ChangeSpec := { name := "rowJoins", fn := fun _ => fun
  | [d1, d2, d3] => { results := [.lit (.bool false)], args := [d1, d2, d3] }
  | _ => none }
def RowJoinsWrongFalsely : Prop := rowJoinsRow.holds Try.pinned (OpenSpec.ofChange rowJoinsWrong)

/-- 'thimblelaw02.RowBack': WHATEVER THE INPUT: true; the input reads as it did. -/
def rowBackSpec : ChangeSpec := { name := "rowBack", fn := fun _ => fun
  | [d1, d2, d3, d4] => { results := [.lit (.bool true)], args := [d1, d2, d3, d4] }
  | _ => none }
def rowBackRow : OpenClaim := { program := "ytogcckedelkpbaa", sum := "3ca11be388c0b84db961573d15597aced9b3fd480e9598b21a7b2991ca1c2a93", func := "thimble/thimblelaw02.RowBack", spec := "rowBack", unfollowed := true, recurses := true, apart := false }
def RowBackSaid : Prop := rowBackRow.holds Try.pinned (OpenSpec.ofChange rowBackSpec)

/-- ITS FALSE NEIGHBOUR: 'it returns false'. Refute it at one input. -/
def rowBackWrong : ChangeSpec := { name := "rowBack", fn := fun _ => fun
  | [d1, d2, d3, d4] => { results := [.lit (.bool false)], args := [d1, d2, d3, d4] }
  | _ => none }
def RowBackWrongFalsely : Prop := rowBackRow.holds Try.pinned (OpenSpec.ofChange rowBackWrong)

/-- 'thimblelaw02.RowReads': WHATEVER THE INPUT: true; the input reads as it did. -/
def rowReadsSpec : ChangeSpec := { name := "rowReads", fn := fun _ => fun
  | [d1, d2] => { results := [.lit (.bool true)], args := [d1, d2] }
  | _ => none }
def rowReadsRow : OpenClaim := { program := "ytogcckedelkpbaa", sum := "3ca11be388c0b84db961573d15597aced9b3fd480e9598b21a7b2991ca1c2a93", func := "thimble/thimblelaw02.RowReads", spec := "rowReads", unfollowed := true, recurses := true, apart := false }
def RowReadsSaid : Prop := rowReadsRow.holds Try.pinned (OpenSpec.ofChange rowReadsSpec)

/-- ITS FALSE NEIGHBOUR: 'it returns false'. Refute it at one input. -/
def rowReadsWrong : ChangeSpec := { name := "rowReads", fn := fun _ => fun
  | [d1, d2] => { results := [.lit (.bool false)], args := [d1, d2] }
  | _ => none }
def RowReadsWrongFalsely : Prop := rowReadsRow.holds Try.pinned (OpenSpec.ofChange rowReadsWrong)

/-- 'thimblelaw02.RowSticks': WHATEVER THE INPUT: true; the input reads as it did. -/
def rowSticksSpec : ChangeSpec := { name := "rowSticks", fn := fun _ => fun
  | [d1, d2, d3] => { results := [.lit (.bool true)], args := [d1, d2, d3] }
  | _ => none }
def rowSticksRow : OpenClaim := { program := "ytogcckedelkpbaa", sum := "3ca11be388c0b84db961573d15597aced9b3fd480e9598b21a7b2991ca1c2a93", func := "thimble/thimblelaw02.RowSticks", spec := "rowSticks", unfollowed := true, recurses := true, apart := false }
def RowSticksSaid : Prop := rowSticksRow.holds Try.pinned (OpenSpec.ofChange rowSticksSpec)

/-- ITS FALSE NEIGHBOUR: 'it returns false'. Refute it at one input. -/
def rowSticksWrong : ChangeSpec := { name := "rowSticks", fn := fun _ => fun
  | [d1, d2, d3] => { results := [.lit (.bool false)], args := [d1, d2, d3] }
  | _ => none }
def RowSticksWrongFalsely : Prop := rowSticksRow.holds Try.pinned (OpenSpec.ofChange rowSticksWrong)

/-- 'thimblelaw02.RowNil': WHATEVER THE INPUT: true; the input reads as it did. -/
def rowNilSpec : ChangeSpec := { name := "rowNil", fn := fun _ => fun
  | [d] => { results := [.lit (.bool true)], args := [d] }
  | _ => none }
def rowNilRow : OpenClaim := { program := "ytogcckedelkpbaa", sum := "3ca11be388c0b84db961573d15597aced9b3fd480e9598b21a7b2991ca1c2a93", func := "thimble/thimblelaw02.RowNil", spec := "rowNil", unfollowed := true, recurses := true, apart := false }
def RowNilSaid : Prop := rowNilRow.holds Try.pinned (OpenSpec.ofChange rowNilSpec)

/-- ITS FALSE NEIGHBOUR: 'it returns false'. Refute it at one input. -/
def rowNilWrong : ChangeSpec := { name := "rowNil", fn := fun _ => fun
  | [d] => { results := [.lit (.bool false)], args := [d] }
  | _ => none }
def RowNilWrongFalsely : Prop := rowNilRow.holds Try.pinned (OpenSpec.ofChange rowNilWrong)

/-- 'thimblelaw17.CountOpens': WHATEVER THE INPUT: true; the input reads as it did. -/
def countOpensSpec : ChangeSpec := { name := "countOpens", fn := fun _ => fun
  | [d] => { results := [.lit (.bool true)], args := [d] }
  | _ => none }
def countOpensRow : OpenClaim := { program := "ytogcckedelkpbaa", sum := "3ca11be388c0b84db961573d15597aced9b3fd480e9598b21a7b2991ca1c2a93", func := "thimble/thimblelaw17.CountOpens", spec := "countOpens", unfollowed := true, recurses := true, apart := false }
def CountOpensSaid : Prop := countOpensRow.holds Try.pinned (OpenSpec.ofChange countOpensSpec)

/-- ITS FALSE NEIGHBOUR: 'it returns false'. Refute it at one input. -/
def countOpensWrong : ChangeSpec := { name := "countOpens", fn := fun _ => fun
  | [d] => { results := [.lit (.bool false)], args := [d] }
  | _ => none }
def CountOpensWrongFalsely : Prop := countOpensRow.holds Try.pinned (OpenSpec.ofChange countOpensWrong)

/-- 'thimblelaw17.CountBack': WHATEVER THE INPUT: true; the input reads as it did. -/
def countBackSpec : ChangeSpec := { name := "countBack", fn := fun _ => fun
  | [d1, d2] => { results := [.lit (.bool true)], args := [d1, d2] }
  | _ => none }
def countBackRow : OpenClaim := { program := "ytogcckedelkpbaa", sum := "3ca11be388c0b84db961573d15597aced9b3fd480e9598b21a7b2991ca1c2a93", func := "thimble/thimblelaw17.CountBack", spec := "countBack", unfollowed := true, recurses := true, apart := false }
def CountBackSaid : Prop := countBackRow.holds Try.pinned (OpenSpec.ofChange countBackSpec)

/-- ITS FALSE NEIGHBOUR: 'it returns false'. Refute it at one input. -/
def countBackWrong : ChangeSpec := { name := "countBack", fn := fun _ => fun
  | [d1, d2] => { results := [.lit (.bool false)], args := [d1, d2] }
  | _ => none }
def CountBackWrongFalsely : Prop := countBackRow.holds Try.pinned (OpenSpec.ofChange countBackWrong)

/-- 'thimblelaw17.CountSets': WHATEVER THE INPUT: true; the input reads as it did. -/
def countSetsSpec : ChangeSpec := { name := "countSets", fn := fun _ => fun
  | [d1, d2, d3] => { results := [.lit (.bool true)], args := [d1, d2, d3] }
  | _ => none }
def countSetsRow : OpenClaim := { program := "ytogcckedelkpbaa", sum := "3ca11be388c0b84db961573d15597aced9b3fd480e9598b21a7b2991ca1c2a93", func := "thimble/thimblelaw17.CountSets", spec := "countSets", unfollowed := true, recurses := true, apart := false }
def CountSetsSaid : Prop := countSetsRow.holds Try.pinned (OpenSpec.ofChange countSetsSpec)

/-- ITS FALSE NEIGHBOUR: 'it returns false'. Refute it at one input. -/
def countSetsWrong : ChangeSpec := { name := "countSets", fn := fun _ => fun
  | [d1, d2, d3] => { results := [.lit (.bool false)], args := [d1, d2, d3] }
  | _ => none }
def CountSetsWrongFalsely : Prop := countSetsRow.holds Try.pinned (OpenSpec.ofChange countSetsWrong)

/- THE SECOND FORM. 'bulk': how many values and letters a reading holds, each counted each time it is reached (what is shared counts as often as it is met; a slice's spare places count too). A statement '..UptoSaid' is the law's where the arguments, and the package variables that the reading takes, are together of bulk at most 1048576: NARROWER than '..Said'. Prove '..Said' where nothing that the law and all that it calls make is longer than what came in: it says more and counts as full. Else prove '..UptoSaid'. A law counts once. -/
mutual
def uptoBulk {H : Type} : DataW H → Nat
  | .lit (.string bytes) => bytes.length + 1
  | .lit _ => 1
  | .nil => 1
  | .ptr d => uptoBulk d + 1
  | .slice elems spare => uptoBulkAll elems + uptoBulkAll spare + 1
  | .agg parts => uptoBulkAll parts + 1
  | .iface _ d => uptoBulk d + 1
  | .map entries => uptoBulkEntries entries + 1
  | .held _ => 1
def uptoBulkAll {H : Type} : List (DataW H) → Nat
  | [] => 0
  | d :: r => uptoBulk d + uptoBulkAll r
def uptoBulkEntries {H : Type} : List (Lit × DataW H) → Nat
  | [] => 0
  | x :: r => uptoBulkEntry x + uptoBulkEntries r
def uptoBulkEntry {H : Type} : Lit × DataW H → Nat
  | (.string bytes, d) => bytes.length + uptoBulk d + 1
  | (_, d) => uptoBulk d + 1
 end
def uptoSmall : (H : Type) → List (DataW H) → Bool := fun _ ds => decide (uptoBulkAll ds ≤ 1048576)
def OpenSpec.upto (s : _root_.Go.ChangeSpec) : _root_.Go.OpenSpec := { _root_.Go.OpenSpec.ofChange s with cond := some uptoSmall }

/-- 'thimblelaw17.CountPacks', WHERE WHAT IT READS IS OF BULK AT MOST 1048576: true; the input reads as it did. -/
def countPacksUptoRow : OpenClaim := { program := "ytogcckedelkpbaa", sum := "3ca11be388c0b84db961573d15597aced9b3fd480e9598b21a7b2991ca1c2a93", func := "thimble/thimblelaw17.CountPacks", spec := "countPacks", apart := false, narrowed := true }
def CountPacksUptoSaid : Prop := countPacksUptoRow.holds Try.pinned (OpenSpec.upto countPacksSpec)

/-- 'thimblelaw17.CountNonces', WHERE WHAT IT READS IS OF BULK AT MOST 1048576: true; the input reads as it did. -/
def countNoncesUptoRow : OpenClaim := { program := "ytogcckedelkpbaa", sum := "3ca11be388c0b84db961573d15597aced9b3fd480e9598b21a7b2991ca1c2a93", func := "thimble/thimblelaw17.CountNonces", spec := "countNonces", apart := false, narrowed := true }
def CountNoncesUptoSaid : Prop := countNoncesUptoRow.holds Try.pinned (OpenSpec.upto countNoncesSpec)

/-- 'thimblelaw02.RowPuts', WHERE WHAT IT READS IS OF BULK AT MOST 1048576: true; the input reads as it did. -/
def rowPutsUptoRow : OpenClaim := { program := "ytogcckedelkpbaa", sum := "3ca11be388c0b84db961573d15597aced9b3fd480e9598b21a7b2991ca1c2a93", func := "thimble/thimblelaw02.RowPuts", spec := "rowPuts", unfollowed := true, recurses := true, apart := false, narrowed := true }
def RowPutsUptoSaid : Prop := rowPutsUptoRow.holds Try.pinned (OpenSpec.upto rowPutsSpec)

/-- 'thimblelaw02.RowJoins', WHERE WHAT IT READS IS OF BULK AT MOST 1048576: true; the input reads as it did. -/
def rowJoinsUptoRow : OpenClaim := { program := "ytogcckedelkpbaa", sum := "3ca11be388c0b84db961573d15597aced9b3fd480e9598b21a7b2991ca1c2a93", func := "thimble/thimblelaw02.RowJoins", spec := "rowJoins", unfollowed := true, recurses := true, apart := false, narrowed := true }
def RowJoinsUptoSaid : Prop := rowJoinsUptoRow.holds Try.pinned (OpenSpec.upto rowJoinsSpec)

/-- 'thimblelaw02.RowBack', WHERE WHAT IT READS IS OF BULK AT MOST 1048576: true; the input reads as it did. -/
def rowBackUptoRow : OpenClaim := { program := "ytogcckedelkpbaa", sum := "3ca11be388c0b84db961573d15597aced9b3fd480e9598b21a7b2991ca1c2a93", func := "thimble/thimblelaw02.RowBack", spec := "rowBack", unfollowed := true, recurses := true, apart := false, narrowed := true }
def RowBackUptoSaid : Prop := rowBackUptoRow.holds Try.pinned (OpenSpec.upto rowBackSpec)

/-- 'thimblelaw02.RowReads', WHERE WHAT IT READS IS OF BULK AT MOST 1048576: true; the input reads as it did. -/
def rowReadsUptoRow : OpenClaim := { program := "ytogcckedelkpbaa", sum := "3ca11be388c0b84db961573d15597aced9b3fd480e9598b21a7b2991ca1c2a93", func := "thimble/thimblelaw02.RowReads", spec := "rowReads", unfollowed := true, recurses := true, apart := false, narrowed := true }
def RowReadsUptoSaid : Prop := rowReadsUptoRow.holds Try.pinned (OpenSpec.upto rowReadsSpec)

/-- 'thimblelaw02.RowSticks', WHERE WHAT IT READS IS OF BULK AT MOST 1048576: true; the input reads as it did. -/
def rowSticksUptoRow : OpenClaim := { program := "ytogcckedelkpbaa", sum := "3ca11be388c0b84db961573d15597aced9b3fd480e9598b21a7b2991ca1c2a93", func := "thimble/thimblelaw02.RowSticks", spec := "rowSticks", unfollowed := true, recurses := true, apart := false, narrowed := true }
def RowSticksUptoSaid : Prop := rowSticksUptoRow.holds Try.pinned (OpenSpec.upto rowSticksSpec)

/-- 'thimblelaw02.RowNil', WHERE WHAT IT READS IS OF BULK AT MOST 1048576: true; the input reads as it did. -/
def rowNilUptoRow : OpenClaim := { program := "ytogcckedelkpbaa", sum := "3ca11be388c0b84db961573d15597aced9b3fd480e9598b21a7b2991ca1c2a93", func := "thimble/thimblelaw02.RowNil", spec := "rowNil", unfollowed := true, recurses := true, apart := false, narrowed := true }
def RowNilUptoSaid : Prop := rowNilUptoRow.holds Try.pinned (OpenSpec.upto rowNilSpec)

/-- 'thimblelaw17.CountOpens', WHERE WHAT IT READS IS OF BULK AT MOST 1048576: true; the input reads as it did. -/
def countOpensUptoRow : OpenClaim := { program := "ytogcckedelkpbaa", sum := "3ca11be388c0b84db961573d15597aced9b3fd480e9598b21a7b2991ca1c2a93", func := "thimble/thimblelaw17.CountOpens", spec := "countOpens", unfollowed := true, recurses := true, apart := false, narrowed := true }
def CountOpensUptoSaid : Prop := countOpensUptoRow.holds Try.pinned (OpenSpec.upto countOpensSpec)

/-- 'thimblelaw17.CountBack', WHERE WHAT IT READS IS OF BULK AT MOST 1048576: true; the input reads as it did. -/
def countBackUptoRow : OpenClaim := { program := "ytogcckedelkpbaa", sum := "3ca11be388c0b84db961573d15597aced9b3fd480e9598b21a7b2991ca1c2a93", func := "thimble/thimblelaw17.CountBack", spec := "countBack", unfollowed := true, recurses := true, apart := false, narrowed := true }
def CountBackUptoSaid : Prop := countBackUptoRow.holds Try.pinned (OpenSpec.upto countBackSpec)

/-- 'thimblelaw17.CountSets', WHERE WHAT IT READS IS OF BULK AT MOST 1048576: true; the input reads as it did. -/
def countSetsUptoRow : OpenClaim := { program := "ytogcckedelkpbaa", sum := "3ca11be388c0b84db961573d15597aced9b3fd480e9598b21a7b2991ca1c2a93", func := "thimble/thimblelaw17.CountSets", spec := "countSets", unfollowed := true, recurses := true, apart := false, narrowed := true }
def CountSetsUptoSaid : Prop := countSetsUptoRow.holds Try.pinned (OpenSpec.upto countSetsSpec)

end Rows
end Go.Proofs.Ytogcckedelkpbaa
