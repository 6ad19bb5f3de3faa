/-
  No cell of these rows narrows 'for every input' (looked for: loops, veiled, ifaces, maps, wideKeys, modest, calm, conditions, laid).
  DERIVED. THE GIVEN ROWS OF THIS SEAT. 7 by the template 'for every input the law returns true; each argument reads behind the call as it read before'; 0 by the template 'total and deterministic' (their statements: YtjmghpoknlffiaaTotals.lean).
  GIVEN WITH THE SEED: the statements are not yours to turn. If you find one false, say at which input.
  Laid BY PROGRAM, IN A SANDBOX (cutbox-rows.mjs): the forced cells as the released guide's own fill.sh prints them over the translation 7fcd6d507edad3be… (all of the seat's roots in one cut). By AI agents, Wed Nov 11 2026. No macro, syntax, notation, axiom, sorry.
-/
import Derived.Test.YtjmghpoknlffiaaChecked
import GoSem.Claim
import GoSem.ClaimJoined
import GoSem.ClaimMapViews
import Derived.JoinedTies
import Derived.KernelRfl
namespace Go.Proofs.Ytjmghpoknlffiaa
/- THE CELL 'sum', in the pinned program and in every row, IS THE sha256 OF THE DUMP (.gsa) THAT YtjmghpoknlffiaaProg.lean LOADS. Nothing in Lean hashes anything: it is a label: what it is worth is what the hold of that sum in a sandbox is worth. -/
noncomputable def Try.pinned : Pinned := { name := "ytjmghpoknlffiaa", sum := "7fcd6d507edad3be88fb9457699fc471b0e788c689e011b1a9e45bef92909b4f", checked := Try.checked }
namespace Rows
def none {H : Type} : Left H := { results := [], args := [] }

/-- 'thimblelaw10.DevTorn': WHATEVER THE INPUT: true; the input reads as it did. -/
def devTornSpec : ChangeSpec := { name := "devTorn", fn := fun _ => fun
  | [d1, d2, d3] => { results := [.lit (.bool true)], args := [d1, d2, d3] }
  | _ => none }
def devTornRow : OpenClaim := { program := "ytjmghpoknlffiaa", sum := "7fcd6d507edad3be88fb9457699fc471b0e788c689e011b1a9e45bef92909b4f", func := "thimble/thimblelaw10.DevTorn", spec := "devTorn", apart := false }
def DevTornSaid : Prop := devTornRow.holds Try.pinned (OpenSpec.ofChange devTornSpec)

/-- ITS FALSE NEIGHBOUR: 'it returns false'. Refute it at one input. -/
def devTornWrong : ChangeSpec := { name := "devTorn", fn := fun _ => fun
  | [d1, d2, d3] => { results := [.lit (.bool false)], args := [d1, d2, d3] }
  | _ => none }
def DevTornWrongFalsely : Prop := devTornRow.holds Try.pinned (OpenSpec.ofChange devTornWrong)

/-- 'thimblelaw10.DevArms': WHATEVER THE INPUT: true; the input reads as it did. -/
def devArmsSpec : ChangeSpec := { name := "devArms", fn := fun _ => fun
  | [d1, d2] => { results := [.lit (.bool true)], args := [d1, d2] }
  | _ => none }
def devArmsRow : OpenClaim := { program := "ytjmghpoknlffiaa", sum := "7fcd6d507edad3be88fb9457699fc471b0e788c689e011b1a9e45bef92909b4f", func := "thimble/thimblelaw10.DevArms", spec := "devArms", apart := false }
def DevArmsSaid : Prop := devArmsRow.holds Try.pinned (OpenSpec.ofChange devArmsSpec)

/-- ITS FALSE NEIGHBOUR: 'it returns false'. Refute it at one input. -/
def devArmsWrong : ChangeSpec := { name := "devArms", fn := fun _ => fun
  | [d1, d2] => { results := [.lit (.bool false)], args := [d1, d2] }
  | _ => none }
def DevArmsWrongFalsely : Prop := devArmsRow.holds Try.pinned (OpenSpec.ofChange devArmsWrong)

/-- 'thimblelaw10.DevSafe': WHATEVER THE INPUT: true; the input reads as it did. -/
def devSafeSpec : ChangeSpec := { name := "devSafe", fn := fun _ => fun
  | [d1, d2, d3] => { results := [.lit (.bool true)], args := [d1, d2, d3] }
  | _ => none }
def devSafeRow : OpenClaim := { program := "ytjmghpoknlffiaa", sum := "7fcd6d507edad3be88fb9457699fc471b0e788c689e011b1a9e45bef92909b4f", func := "thimble/thimblelaw10.DevSafe", spec := "devSafe", apart := false }
def DevSafeSaid : Prop := devSafeRow.holds Try.pinned (OpenSpec.ofChange devSafeSpec)

/-- ITS FALSE NEIGHBOUR: 'it returns false'. Refute it at one input. -/
def devSafeWrong : ChangeSpec := { name := "devSafe", fn := fun _ => fun
  | [d1, d2, d3] => { results := [.lit (.bool false)], args := [d1, d2, d3] }
  | _ => none }
def DevSafeWrongFalsely : Prop := devSafeRow.holds Try.pinned (OpenSpec.ofChange devSafeWrong)

/-- 'thimblelaw10.DevBack': WHATEVER THE INPUT: true; the input reads as it did. -/
def devBackSpec : ChangeSpec := { name := "devBack", fn := fun _ => fun
  | [d1, d2, d3] => { results := [.lit (.bool true)], args := [d1, d2, d3] }
  | _ => none }
def devBackRow : OpenClaim := { program := "ytjmghpoknlffiaa", sum := "7fcd6d507edad3be88fb9457699fc471b0e788c689e011b1a9e45bef92909b4f", func := "thimble/thimblelaw10.DevBack", spec := "devBack", apart := false }
def DevBackSaid : Prop := devBackRow.holds Try.pinned (OpenSpec.ofChange devBackSpec)

/-- ITS FALSE NEIGHBOUR: 'it returns false'. Refute it at one input. -/
def devBackWrong : ChangeSpec := { name := "devBack", fn := fun _ => fun
  | [d1, d2, d3] => { results := [.lit (.bool false)], args := [d1, d2, d3] }
  | _ => none }
def DevBackWrongFalsely : Prop := devBackRow.holds Try.pinned (OpenSpec.ofChange devBackWrong)

/-- 'thimblelaw10.DevPlays': WHATEVER THE INPUT: true; the input reads as it did. -/
def devPlaysSpec : ChangeSpec := { name := "devPlays", fn := fun _ => fun
  | [d1, d2] => { results := [.lit (.bool true)], args := [d1, d2] }
  | _ => none }
def devPlaysRow : OpenClaim := { program := "ytjmghpoknlffiaa", sum := "7fcd6d507edad3be88fb9457699fc471b0e788c689e011b1a9e45bef92909b4f", func := "thimble/thimblelaw10.DevPlays", spec := "devPlays", apart := false }
def DevPlaysSaid : Prop := devPlaysRow.holds Try.pinned (OpenSpec.ofChange devPlaysSpec)

/-- ITS FALSE NEIGHBOUR: 'it returns false'. Refute it at one input. -/
def devPlaysWrong : ChangeSpec := { name := "devPlays", fn := fun _ => fun
  | [d1, d2] => { results := [.lit (.bool false)], args := [d1, d2] }
  | _ => none }
def DevPlaysWrongFalsely : Prop := devPlaysRow.holds Try.pinned (OpenSpec.ofChange devPlaysWrong)

/-- 'thimblelaw10.DevKeeps': WHATEVER THE INPUT: true; the input reads as it did. -/
def devKeepsSpec : ChangeSpec := { name := "devKeeps", fn := fun _ => fun
  | [d1, d2] => { results := [.lit (.bool true)], args := [d1, d2] }
  | _ => none }
def devKeepsRow : OpenClaim := { program := "ytjmghpoknlffiaa", sum := "7fcd6d507edad3be88fb9457699fc471b0e788c689e011b1a9e45bef92909b4f", func := "thimble/thimblelaw10.DevKeeps", spec := "devKeeps", apart := false }
def DevKeepsSaid : Prop := devKeepsRow.holds Try.pinned (OpenSpec.ofChange devKeepsSpec)

/-- ITS FALSE NEIGHBOUR: 'it returns false'. Refute it at one input. -/
def devKeepsWrong : ChangeSpec := { name := "devKeeps", fn := fun _ => fun
  | [d1, d2] => { results := [.lit (.bool false)], args := [d1, d2] }
  | _ => none }
def DevKeepsWrongFalsely : Prop := devKeepsRow.holds Try.pinned (OpenSpec.ofChange devKeepsWrong)

/-- 'thimblelaw10.DevNil': WHATEVER THE INPUT: true; the input reads as it did. -/
def devNilSpec : ChangeSpec := { name := "devNil", fn := fun _ => fun
  | [d] => { results := [.lit (.bool true)], args := [d] }
  | _ => none }
def devNilRow : OpenClaim := { program := "ytjmghpoknlffiaa", sum := "7fcd6d507edad3be88fb9457699fc471b0e788c689e011b1a9e45bef92909b4f", func := "thimble/thimblelaw10.DevNil", spec := "devNil", apart := false }
def DevNilSaid : Prop := devNilRow.holds Try.pinned (OpenSpec.ofChange devNilSpec)

/-- ITS FALSE NEIGHBOUR: 'it returns false'. Refute it at one input. -/
def devNilWrong : ChangeSpec := { name := "devNil", fn := fun _ => fun
  | [d] => { results := [.lit (.bool false)], args := [d] }
  | _ => none }
def DevNilWrongFalsely : Prop := devNilRow.holds Try.pinned (OpenSpec.ofChange devNilWrong)

/- THE SECOND FORM. 'bulk': how many values and letters a reading holds, each counted each time it is reached (what is shared counts as often as it is met; a slice's spare places count too). A statement '..UptoSaid' is the law's where the arguments, and the package variables that the reading takes, are together of bulk at most 1048576: NARROWER than '..Said'. Prove '..Said' where nothing that the law and all that it calls make is longer than what came in: it says more and counts as full. Else prove '..UptoSaid'. A law counts once. -/
mutual
def uptoBulk {H : Type} : DataW H → Nat
  | .lit (.string bytes) => bytes.length + 1
  | .lit _ => 1
  | .nil => 1
  | .ptr d => uptoBulk d + 1
  | .slice elems spare => uptoBulkAll elems + uptoBulkAll spare + 1
  | .agg parts => uptoBulkAll parts + 1
  | .iface _ d => uptoBulk d + 1
  | .map entries => uptoBulkEntries entries + 1
  | .held _ => 1
def uptoBulkAll {H : Type} : List (DataW H) → Nat
  | [] => 0
  | d :: r => uptoBulk d + uptoBulkAll r
def uptoBulkEntries {H : Type} : List (Lit × DataW H) → Nat
  | [] => 0
  | x :: r => uptoBulkEntry x + uptoBulkEntries r
def uptoBulkEntry {H : Type} : Lit × DataW H → Nat
  | (.string bytes, d) => bytes.length + uptoBulk d + 1
  | (_, d) => uptoBulk d + 1
 end
def uptoSmall : (H : Type) → List (DataW H) → Bool := fun _ ds => decide (uptoBulkAll ds ≤ 1048576)
def OpenSpec.upto (s : _root_.Go.ChangeSpec) : _root_.Go.OpenSpec := { _root_.Go.OpenSpec.ofChange s with cond := some uptoSmall }

/-- 'thimblelaw10.DevTorn', WHERE WHAT IT READS IS OF BULK AT MOST 1048576: true; the input reads as it did. -/
def devTornUptoRow : OpenClaim := { program := "ytjmghpoknlffiaa", sum := "7fcd6d507edad3be88fb9457699fc471b0e788c689e011b1a9e45bef92909b4f", func := "thimble/thimblelaw10.DevTorn", spec := "devTorn", apart := false, narrowed := true }
def DevTornUptoSaid : Prop := devTornUptoRow.holds Try.pinned (OpenSpec.upto devTornSpec)

/-- 'thimblelaw10.DevArms', WHERE WHAT IT READS IS OF BULK AT MOST 1048576: true; the input reads as it did. -/
def devArmsUptoRow : OpenClaim := { program := "ytjmghpoknlffiaa", sum := "7fcd6d507edad3be88fb9457699fc471b0e788c689e011b1a9e45bef92909b4f", func := "thimble/thimblelaw10.DevArms", spec := "devArms", apart := false, narrowed := true }
def DevArmsUptoSaid : Prop := devArmsUptoRow.holds Try.pinned (OpenSpec.upto devArmsSpec)

/-- 'thimblelaw10.DevSafe', WHERE WHAT IT READS IS OF BULK AT MOST 1048576: true; the input reads as it did. -/
def devSafeUptoRow : OpenClaim := { program := "ytjmghpoknlffiaa", sum := "7fcd6d507edad3be88fb9457699fc471b0e788c689e011b1a9e45bef92909b4f", func := "thimble/thimblelaw10.DevSafe", spec := "devSafe", apart := false, narrowed := true }
def DevSafeUptoSaid : Prop := devSafeUptoRow.holds Try.pinned (OpenSpec.upto devSafeSpec)

/-- 'thimblelaw10.DevBack', WHERE WHAT IT READS IS OF BULK AT MOST 1048576: true; the input reads as it did. -/
def devBackUptoRow : OpenClaim := { program := "ytjmghpoknlffiaa", sum := "7fcd6d507edad3be88fb9457699fc471b0e788c689e011b1a9e45bef92909b4f", func := "thimble/thimblelaw10.DevBack", spec := "devBack", apart := false, narrowed := true }
def DevBackUptoSaid : Prop := devBackUptoRow.holds Try.pinned (OpenSpec.upto devBackSpec)

/-- 'thimblelaw10.DevPlays', WHERE WHAT IT READS IS OF BULK AT MOST 1048576: true; the input reads as it did. -/
def devPlaysUptoRow : OpenClaim := { program := "ytjmghpoknlffiaa", sum := "7fcd6d507edad3be88fb9457699fc471b0e788c689e011b1a9e45bef92909b4f", func := "thimble/thimblelaw10.DevPlays", spec := "devPlays", apart := false, narrowed := true }
def DevPlaysUptoSaid : Prop := devPlaysUptoRow.holds Try.pinned (OpenSpec.upto devPlaysSpec)

/-- 'thimblelaw10.DevKeeps', WHERE WHAT IT READS IS OF BULK AT MOST 1048576: true; the input reads as it did. -/
def devKeepsUptoRow : OpenClaim := { program := "ytjmghpoknlffiaa", sum := "7fcd6d507edad3be88fb9457699fc471b0e788c689e011b1a9e45bef92909b4f", func := "thimble/thimblelaw10.DevKeeps", spec := "devKeeps", apart := false, narrowed := true }
def DevKeepsUptoSaid : Prop := devKeepsUptoRow.holds Try.pinned (OpenSpec.upto devKeepsSpec)

/-- 'thimblelaw10.DevNil', WHERE WHAT IT READS IS OF BULK AT MOST 1048576: true; the input reads as it did. -/
def devNilUptoRow : OpenClaim := { program := "ytjmghpoknlffiaa", sum := "7fcd6d507edad3be88fb9457699fc471b0e788c689e011b1a9e45bef92909b4f", func := "thimble/thimblelaw10.DevNil", spec := "devNil", apart := false, narrowed := true }
def DevNilUptoSaid : Prop := devNilUptoRow.holds Try.pinned (OpenSpec.upto devNilSpec)

end Rows
end Go.Proofs.Ytjmghpoknlffiaa
