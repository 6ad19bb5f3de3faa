/-
  No cell of these rows narrows 'for every input' (looked for: loops, veiled, ifaces, maps, wideKeys, modest, calm, conditions, laid).
  DERIVED. THE GIVEN ROWS OF THIS SEAT. 12 by the template 'for every input the law returns true; each argument reads behind the call as it read before'; 0 by the template 'total and deterministic' (their statements: YthlofbkbaabamaaTotals.lean).
  GIVEN WITH THE SEED: the statements are not yours to turn. If you find one false, say at which input.
  Laid BY PROGRAM, IN A SANDBOX (cutbox-rows.mjs): the forced cells as the released guide's own fill.sh prints them over the translation e5034d226aa08083… (all of the seat's roots in one cut). By AI agents, Wed Nov 11 2026. No macro, syntax, notation, axiom, sorry.
-/
import Derived.Test.YthlofbkbaabamaaChecked
import GoSem.Claim
import GoSem.ClaimJoined
import GoSem.ClaimMapViews
import Derived.JoinedTies
import Derived.KernelRfl
namespace Go.Proofs.Ythlofbkbaabamaa
/- THE CELL 'sum', in the pinned program and in every row, IS THE sha256 OF THE DUMP (.gsa) THAT YthlofbkbaabamaaProg.lean LOADS. Nothing in Lean hashes anything: it is a label: what it is worth is what the hold of that sum in a sandbox is worth. -/
noncomputable def Try.pinned : Pinned := { name := "ythlofbkbaabamaa", sum := "e5034d226aa08083a6d1658615518e1df62957fabab6fc094591e08b6772fd9f", checked := Try.checked }
namespace Rows
def none {H : Type} : Left H := { results := [], args := [] }

/-- 'thimblelaw11.RegRight': WHATEVER THE INPUT: true; the input reads as it did. -/
def regRightSpec : ChangeSpec := { name := "regRight", fn := fun _ => fun
  | [d1, d2] => { results := [.lit (.bool true)], args := [d1, d2] }
  | _ => none }
def regRightRow : OpenClaim := { program := "ythlofbkbaabamaa", sum := "e5034d226aa08083a6d1658615518e1df62957fabab6fc094591e08b6772fd9f", func := "thimble/thimblelaw11.RegRight", spec := "regRight", apart := false }
def RegRightSaid : Prop := regRightRow.holds Try.pinned (OpenSpec.ofChange regRightSpec)

/-- ITS FALSE NEIGHBOUR: 'it returns false'. Refute it at one input. -/
def regRightWrong : ChangeSpec := { name := "regRight", fn := fun _ => fun
  | [d1, d2] => { results := [.lit (.bool false)], args := [d1, d2] }
  | _ => none }
def RegRightWrongFalsely : Prop := regRightRow.holds Try.pinned (OpenSpec.ofChange regRightWrong)

/-- 'thimblelaw11.RegOrder': WHATEVER THE INPUT: true; the input reads as it did. -/
def regOrderSpec : ChangeSpec := { name := "regOrder", fn := fun _ => fun
  | [d1, d2, d3] => { results := [.lit (.bool true)], args := [d1, d2, d3] }
  | _ => none }
def regOrderRow : OpenClaim := { program := "ythlofbkbaabamaa", sum := "e5034d226aa08083a6d1658615518e1df62957fabab6fc094591e08b6772fd9f", func := "thimble/thimblelaw11.RegOrder", spec := "regOrder", apart := false }
def RegOrderSaid : Prop := regOrderRow.holds Try.pinned (OpenSpec.ofChange regOrderSpec)

/-- ITS FALSE NEIGHBOUR: 'it returns false'. Refute it at one input. -/
def regOrderWrong : ChangeSpec := { name := "regOrder", fn := fun _ => fun
  | [d1, d2, d3] => { results := [.lit (.bool false)], args := [d1, d2, d3] }
  | _ => none }
def RegOrderWrongFalsely : Prop := regOrderRow.holds Try.pinned (OpenSpec.ofChange regOrderWrong)

/-- 'thimblelaw11.RegNil': WHATEVER THE INPUT: true; the input reads as it did. -/
def regNilSpec : ChangeSpec := { name := "regNil", fn := fun _ => fun
  | [d] => { results := [.lit (.bool true)], args := [d] }
  | _ => none }
def regNilRow : OpenClaim := { program := "ythlofbkbaabamaa", sum := "e5034d226aa08083a6d1658615518e1df62957fabab6fc094591e08b6772fd9f", func := "thimble/thimblelaw11.RegNil", spec := "regNil", apart := false }
def RegNilSaid : Prop := regNilRow.holds Try.pinned (OpenSpec.ofChange regNilSpec)

/-- ITS FALSE NEIGHBOUR: 'it returns false'. Refute it at one input. -/
def regNilWrong : ChangeSpec := { name := "regNil", fn := fun _ => fun
  | [d] => { results := [.lit (.bool false)], args := [d] }
  | _ => none }
def RegNilWrongFalsely : Prop := regNilRow.holds Try.pinned (OpenSpec.ofChange regNilWrong)

/-- 'thimblelaw11.RegPlays': WHATEVER THE INPUT: true; the input reads as it did. -/
def regPlaysSpec : ChangeSpec := { name := "regPlays", fn := fun _ => fun
  | [d] => { results := [.lit (.bool true)], args := [d] }
  | _ => none }
def regPlaysRow : OpenClaim := { program := "ythlofbkbaabamaa", sum := "e5034d226aa08083a6d1658615518e1df62957fabab6fc094591e08b6772fd9f", func := "thimble/thimblelaw11.RegPlays", spec := "regPlays", apart := false }
def RegPlaysSaid : Prop := regPlaysRow.holds Try.pinned (OpenSpec.ofChange regPlaysSpec)

/-- ITS FALSE NEIGHBOUR: 'it returns false'. Refute it at one input. -/
def regPlaysWrong : ChangeSpec := { name := "regPlays", fn := fun _ => fun
  | [d] => { results := [.lit (.bool false)], args := [d] }
  | _ => none }
def RegPlaysWrongFalsely : Prop := regPlaysRow.holds Try.pinned (OpenSpec.ofChange regPlaysWrong)

/-- 'thimblelaw11.RegRises': WHATEVER THE INPUT: true; the input reads as it did. -/
def regRisesSpec : ChangeSpec := { name := "regRises", fn := fun _ => fun
  | [d] => { results := [.lit (.bool true)], args := [d] }
  | _ => none }
def regRisesRow : OpenClaim := { program := "ythlofbkbaabamaa", sum := "e5034d226aa08083a6d1658615518e1df62957fabab6fc094591e08b6772fd9f", func := "thimble/thimblelaw11.RegRises", spec := "regRises", apart := false }
def RegRisesSaid : Prop := regRisesRow.holds Try.pinned (OpenSpec.ofChange regRisesSpec)

/-- ITS FALSE NEIGHBOUR: 'it returns false'. Refute it at one input. -/
def regRisesWrong : ChangeSpec := { name := "regRises", fn := fun _ => fun
  | [d] => { results := [.lit (.bool false)], args := [d] }
  | _ => none }
def RegRisesWrongFalsely : Prop := regRisesRow.holds Try.pinned (OpenSpec.ofChange regRisesWrong)

/-- 'thimblelaw10.DevTorn': WHATEVER THE INPUT: true; the input reads as it did. -/
def devTornSpec : ChangeSpec := { name := "devTorn", fn := fun _ => fun
  | [d1, d2, d3] => { results := [.lit (.bool true)], args := [d1, d2, d3] }
  | _ => none }
def devTornRow : OpenClaim := { program := "ythlofbkbaabamaa", sum := "e5034d226aa08083a6d1658615518e1df62957fabab6fc094591e08b6772fd9f", func := "thimble/thimblelaw10.DevTorn", spec := "devTorn", apart := false }
def DevTornSaid : Prop := devTornRow.holds Try.pinned (OpenSpec.ofChange devTornSpec)

/-- ITS FALSE NEIGHBOUR: 'it returns false'. Refute it at one input. -/
def devTornWrong : ChangeSpec := { name := "devTorn", fn := fun _ => fun
  | [d1, d2, d3] => { results := [.lit (.bool false)], args := [d1, d2, d3] }
  | _ => none }
def DevTornWrongFalsely : Prop := devTornRow.holds Try.pinned (OpenSpec.ofChange devTornWrong)

/-- 'thimblelaw10.DevArms': WHATEVER THE INPUT: true; the input reads as it did. -/
def devArmsSpec : ChangeSpec := { name := "devArms", fn := fun _ => fun
  | [d1, d2] => { results := [.lit (.bool true)], args := [d1, d2] }
  | _ => none }
def devArmsRow : OpenClaim := { program := "ythlofbkbaabamaa", sum := "e5034d226aa08083a6d1658615518e1df62957fabab6fc094591e08b6772fd9f", func := "thimble/thimblelaw10.DevArms", spec := "devArms", apart := false }
def DevArmsSaid : Prop := devArmsRow.holds Try.pinned (OpenSpec.ofChange devArmsSpec)

/-- ITS FALSE NEIGHBOUR: 'it returns false'. Refute it at one input. -/
def devArmsWrong : ChangeSpec := { name := "devArms", fn := fun _ => fun
  | [d1, d2] => { results := [.lit (.bool false)], args := [d1, d2] }
  | _ => none }
def DevArmsWrongFalsely : Prop := devArmsRow.holds Try.pinned (OpenSpec.ofChange devArmsWrong)

/-- 'thimblelaw10.DevSafe': WHATEVER THE INPUT: true; the input reads as it did. -/
def devSafeSpec : ChangeSpec := { name := "devSafe", fn := fun _ => fun
  | [d1, d2, d3] => { results := [.lit (.bool true)], args := [d1, d2, d3] }
  | _ => none }
def devSafeRow : OpenClaim := { program := "ythlofbkbaabamaa", sum := "e5034d226aa08083a6d1658615518e1df62957fabab6fc094591e08b6772fd9f", func := "thimble/thimblelaw10.DevSafe", spec := "devSafe", apart := false }
def DevSafeSaid : Prop := devSafeRow.holds Try.pinned (OpenSpec.ofChange devSafeSpec)

/-- ITS FALSE NEIGHBOUR: 'it returns false'. Refute it at one input. -/
def devSafeWrong : ChangeSpec := { name := "devSafe", fn := fun _ => fun
  | [d1, d2, d3] => { results := [.lit (.bool false)], args := [d1, d2, d3] }
  | _ => none }
def DevSafeWrongFalsely : Prop := devSafeRow.holds Try.pinned (OpenSpec.ofChange devSafeWrong)

/-- 'thimblelaw10.DevBack': WHATEVER THE INPUT: true; the input reads as it did. -/
def devBackSpec : ChangeSpec := { name := "devBack", fn := fun _ => fun
  | [d1, d2, d3] => { results := [.lit (.bool true)], args := [d1, d2, d3] }
  | _ => none }
def devBackRow : OpenClaim := { program := "ythlofbkbaabamaa", sum := "e5034d226aa08083a6d1658615518e1df62957fabab6fc094591e08b6772fd9f", func := "thimble/thimblelaw10.DevBack", spec := "devBack", apart := false }
def DevBackSaid : Prop := devBackRow.holds Try.pinned (OpenSpec.ofChange devBackSpec)

/-- ITS FALSE NEIGHBOUR: 'it returns false'. Refute it at one input. -/
def devBackWrong : ChangeSpec := { name := "devBack", fn := fun _ => fun
  | [d1, d2, d3] => { results := [.lit (.bool false)], args := [d1, d2, d3] }
  | _ => none }
def DevBackWrongFalsely : Prop := devBackRow.holds Try.pinned (OpenSpec.ofChange devBackWrong)

/-- 'thimblelaw10.DevPlays': WHATEVER THE INPUT: true; the input reads as it did. -/
def devPlaysSpec : ChangeSpec := { name := "devPlays", fn := fun _ => fun
  | [d1, d2] => { results := [.lit (.bool true)], args := [d1, d2] }
  | _ => none }
def devPlaysRow : OpenClaim := { program := "ythlofbkbaabamaa", sum := "e5034d226aa08083a6d1658615518e1df62957fabab6fc094591e08b6772fd9f", func := "thimble/thimblelaw10.DevPlays", spec := "devPlays", apart := false }
def DevPlaysSaid : Prop := devPlaysRow.holds Try.pinned (OpenSpec.ofChange devPlaysSpec)

/-- ITS FALSE NEIGHBOUR: 'it returns false'. Refute it at one input. -/
def devPlaysWrong : ChangeSpec := { name := "devPlays", fn := fun _ => fun
  | [d1, d2] => { results := [.lit (.bool false)], args := [d1, d2] }
  | _ => none }
def DevPlaysWrongFalsely : Prop := devPlaysRow.holds Try.pinned (OpenSpec.ofChange devPlaysWrong)

/-- 'thimblelaw10.DevKeeps': WHATEVER THE INPUT: true; the input reads as it did. -/
def devKeepsSpec : ChangeSpec := { name := "devKeeps", fn := fun _ => fun
  | [d1, d2] => { results := [.lit (.bool true)], args := [d1, d2] }
  | _ => none }
def devKeepsRow : OpenClaim := { program := "ythlofbkbaabamaa", sum := "e5034d226aa08083a6d1658615518e1df62957fabab6fc094591e08b6772fd9f", func := "thimble/thimblelaw10.DevKeeps", spec := "devKeeps", apart := false }
def DevKeepsSaid : Prop := devKeepsRow.holds Try.pinned (OpenSpec.ofChange devKeepsSpec)

/-- ITS FALSE NEIGHBOUR: 'it returns false'. Refute it at one input. -/
def devKeepsWrong : ChangeSpec := { name := "devKeeps", fn := fun _ => fun
  | [d1, d2] => { results := [.lit (.bool false)], args := [d1, d2] }
  | _ => none }
def DevKeepsWrongFalsely : Prop := devKeepsRow.holds Try.pinned (OpenSpec.ofChange devKeepsWrong)

/-- 'thimblelaw10.DevNil': WHATEVER THE INPUT: true; the input reads as it did. -/
def devNilSpec : ChangeSpec := { name := "devNil", fn := fun _ => fun
  | [d] => { results := [.lit (.bool true)], args := [d] }
  | _ => none }
def devNilRow : OpenClaim := { program := "ythlofbkbaabamaa", sum := "e5034d226aa08083a6d1658615518e1df62957fabab6fc094591e08b6772fd9f", func := "thimble/thimblelaw10.DevNil", spec := "devNil", apart := false }
def DevNilSaid : Prop := devNilRow.holds Try.pinned (OpenSpec.ofChange devNilSpec)

/-- ITS FALSE NEIGHBOUR: 'it returns false'. Refute it at one input. -/
def devNilWrong : ChangeSpec := { name := "devNil", fn := fun _ => fun
  | [d] => { results := [.lit (.bool false)], args := [d] }
  | _ => none }
def DevNilWrongFalsely : Prop := devNilRow.holds Try.pinned (OpenSpec.ofChange devNilWrong)

/- THE SECOND FORM. 'bulk': how many values and letters a reading holds, each counted each time it is reached (what is shared counts as often as it is met; a slice's spare places count too). A statement '..UptoSaid' is the law's where the arguments, and the package variables that the reading takes, are together of bulk at most 1048576: NARROWER than '..Said'. Prove '..Said' where nothing that the law and all that it calls make is longer than what came in: it says more and counts as full. Else prove '..UptoSaid'. A law counts once. -/
mutual
def uptoBulk {H : Type} : DataW H → Nat
  | .lit (.string bytes) => bytes.length + 1
  | .lit _ => 1
  | .nil => 1
  | .ptr d => uptoBulk d + 1
  | .slice elems spare => uptoBulkAll elems + uptoBulkAll spare + 1
  | .agg parts => uptoBulkAll parts + 1
  | .iface _ d => uptoBulk d + 1
  | .map entries => uptoBulkEntries entries + 1
  | .held _ => 1
def uptoBulkAll {H : Type} : List (DataW H) → Nat
  | [] => 0
  | d :: r => uptoBulk d + uptoBulkAll r
def uptoBulkEntries {H : Type} : List (Lit × DataW H) → Nat
  | [] => 0
  | x :: r => uptoBulkEntry x + uptoBulkEntries r
def uptoBulkEntry {H : Type} : Lit × DataW H → Nat
  | (.string bytes, d) => bytes.length + uptoBulk d + 1
  | (_, d) => uptoBulk d + 1
 end
def uptoSmall : (H : Type) → List (DataW H) → Bool := fun _ ds => decide (uptoBulkAll ds ≤ 1048576)
def OpenSpec.upto (s : _root_.Go.ChangeSpec) : _root_.Go.OpenSpec := { _root_.Go.OpenSpec.ofChange s with cond := some uptoSmall }

/-- 'thimblelaw11.RegRight', WHERE WHAT IT READS IS OF BULK AT MOST 1048576: true; the input reads as it did. -/
def regRightUptoRow : OpenClaim := { program := "ythlofbkbaabamaa", sum := "e5034d226aa08083a6d1658615518e1df62957fabab6fc094591e08b6772fd9f", func := "thimble/thimblelaw11.RegRight", spec := "regRight", apart := false, narrowed := true }
def RegRightUptoSaid : Prop := regRightUptoRow.holds Try.pinned (OpenSpec.upto regRightSpec)

/-- 'thimblelaw11.RegOrder', WHERE WHAT IT READS IS OF BULK AT MOST 1048576: true; the input reads as it did. -/
def regOrderUptoRow : OpenClaim := { program := "ythlofbkbaabamaa", sum := "e5034d226aa08083a6d1658615518e1df62957fabab6fc094591e08b6772fd9f", func := "thimble/thimblelaw11.RegOrder", spec := "regOrder", apart := false, narrowed := true }
def RegOrderUptoSaid : Prop := regOrderUptoRow.holds Try.pinned (OpenSpec.upto regOrderSpec)

/-- 'thimblelaw11.RegNil', WHERE WHAT IT READS IS OF BULK AT MOST 1048576: true; the input reads as it did. -/
def regNilUptoRow : OpenClaim := { program := "ythlofbkbaabamaa", sum := "e5034d226aa08083a6d1658615518e1df62957fabab6fc094591e08b6772fd9f", func := "thimble/thimblelaw11.RegNil", spec := "regNil", apart := false, narrowed := true }
def RegNilUptoSaid : Prop := regNilUptoRow.holds Try.pinned (OpenSpec.upto regNilSpec)

/-- 'thimblelaw11.RegPlays', WHERE WHAT IT READS IS OF BULK AT MOST 1048576: true; the input reads as it did. -/
def regPlaysUptoRow : OpenClaim := { program := "ythlofbkbaabamaa", sum := "e5034d226aa08083a6d1658615518e1df62957fabab6fc094591e08b6772fd9f", func := "thimble/thimblelaw11.RegPlays", spec := "regPlays", apart := false, narrowed := true }
def RegPlaysUptoSaid : Prop := regPlaysUptoRow.holds Try.pinned (OpenSpec.upto regPlaysSpec)

/-- 'thimblelaw11.RegRises', WHERE WHAT IT READS IS OF BULK AT MOST 1048576: true; the input reads as it did. -/
def regRisesUptoRow : OpenClaim := { program := "ythlofbkbaabamaa", sum := "e5034d226aa08083a6d1658615518e1df62957fabab6fc094591e08b6772fd9f", func := "thimble/thimblelaw11.RegRises", spec := "regRises", apart := false, narrowed := true }
def RegRisesUptoSaid : Prop := regRisesUptoRow.holds Try.pinned (OpenSpec.upto regRisesSpec)

/-- 'thimblelaw10.DevTorn', WHERE WHAT IT READS IS OF BULK AT MOST 1048576: true; the input reads as it did. -/
def devTornUptoRow : OpenClaim := { program := "ythlofbkbaabamaa", sum := "e5034d226aa08083a6d1658615518e1df62957fabab6fc094591e08b6772fd9f", func := "thimble/thimblelaw10.DevTorn", spec := "devTorn", apart := false, narrowed := true }
def DevTornUptoSaid : Prop := devTornUptoRow.holds Try.pinned (OpenSpec.upto devTornSpec)

/-- 'thimblelaw10.DevArms', WHERE WHAT IT READS IS OF BULK AT MOST 1048576: true; the input reads as it did. -/
def devArmsUptoRow : OpenClaim := { program := "ythlofbkbaabamaa", sum := "e5034d226aa08083a6d1658615518e1df62957fabab6fc094591e08b6772fd9f", func := "thimble/thimblelaw10.DevArms", spec := "devArms", apart := false, narrowed := true }
def DevArmsUptoSaid : Prop := devArmsUptoRow.holds Try.pinned (OpenSpec.upto devArmsSpec)

/-- 'thimblelaw10.DevSafe', WHERE WHAT IT READS IS OF BULK AT MOST 1048576: true; the input reads as it did. -/
def devSafeUptoRow : OpenClaim := { program := "ythlofbkbaabamaa", sum := "e5034d226aa08083a6d1658615518e1df62957fabab6fc094591e08b6772fd9f", func := "thimble/thimblelaw10.DevSafe", spec := "devSafe", apart := false, narrowed := true }
def DevSafeUptoSaid : Prop := devSafeUptoRow.holds Try.pinned (OpenSpec.upto devSafeSpec)

/-- 'thimblelaw10.DevBack', WHERE WHAT IT READS IS OF BULK AT MOST 1048576: true; the input reads as it did. -/
def devBackUptoRow : OpenClaim := { program := "ythlofbkbaabamaa", sum := "e5034d226aa08083a6d1658615518e1df62957fabab6fc094591e08b6772fd9f", func := "thimble/thimblelaw10.DevBack", spec := "devBack", apart := false, narrowed := true }
def DevBackUptoSaid : Prop := devBackUptoRow.holds Try.pinned (OpenSpec.upto devBackSpec)

/-- 'thimblelaw10.DevPlays', WHERE WHAT IT READS IS OF BULK AT MOST 1048576: true; the input reads as it did. -/
def devPlaysUptoRow : OpenClaim := { program := "ythlofbkbaabamaa", sum := "e5034d226aa08083a6d1658615518e1df62957fabab6fc094591e08b6772fd9f", func := "thimble/thimblelaw10.DevPlays", spec := "devPlays", apart := false, narrowed := true }
def DevPlaysUptoSaid : Prop := devPlaysUptoRow.holds Try.pinned (OpenSpec.upto devPlaysSpec)

/-- 'thimblelaw10.DevKeeps', WHERE WHAT IT READS IS OF BULK AT MOST 1048576: true; the input reads as it did. -/
def devKeepsUptoRow : OpenClaim := { program := "ythlofbkbaabamaa", sum := "e5034d226aa08083a6d1658615518e1df62957fabab6fc094591e08b6772fd9f", func := "thimble/thimblelaw10.DevKeeps", spec := "devKeeps", apart := false, narrowed := true }
def DevKeepsUptoSaid : Prop := devKeepsUptoRow.holds Try.pinned (OpenSpec.upto devKeepsSpec)

/-- 'thimblelaw10.DevNil', WHERE WHAT IT READS IS OF BULK AT MOST 1048576: true; the input reads as it did. -/
def devNilUptoRow : OpenClaim := { program := "ythlofbkbaabamaa", sum := "e5034d226aa08083a6d1658615518e1df62957fabab6fc094591e08b6772fd9f", func := "thimble/thimblelaw10.DevNil", spec := "devNil", apart := false, narrowed := true }
def DevNilUptoSaid : Prop := devNilUptoRow.holds Try.pinned (OpenSpec.upto devNilSpec)

end Rows
end Go.Proofs.Ythlofbkbaabamaa
