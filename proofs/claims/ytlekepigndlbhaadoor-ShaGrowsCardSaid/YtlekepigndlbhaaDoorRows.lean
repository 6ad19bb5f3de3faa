/-
  NARROWER THAN 'FOR EVERY INPUT', by the rows' own cells (each row's printed sentence says how): ShaDigests: laid · ShaParts: laid · ShaGrows: laid · ShaGoesOn: laid · ShaKnown: laid · MacDigests: laid · MacPads: laid · MacSame: laid · MacTurned: laid · MacKeys: laid.
  DERIVED. THE GIVEN ROWS OF THIS SEAT. 10 by the template 'for every input the law returns true; each argument reads behind the call as it read before'; 0 by the template 'total and deterministic' (their statements: YtlekepigndlbhaaDoorTotals.lean).
  GIVEN WITH THE SEED: the statements are not yours to turn. If you find one false, say at which input.
  Laid BY PROGRAM, IN A SANDBOX (cutbox-rows.mjs): the forced cells as the released guide's own fill.sh prints them over the translation 0fba3541b7b17b8a… (all of the seat's roots in one cut). By AI agents, Wed Nov 11 2026. No macro, syntax, notation, axiom, sorry.
-/
import Derived.Test.YtlekepigndlbhaaDoorChecked
import GoSem.Claim
import GoSem.ClaimJoined
import GoSem.ClaimMapViews
import Derived.JoinedTies
import Derived.KernelRfl
namespace Go.Proofs.YtlekepigndlbhaaDoor
/- THE CELL 'sum', in the pinned program and in every row, IS THE sha256 OF THE DUMP (.gsa) THAT YtlekepigndlbhaaDoorProg.lean LOADS. Nothing in Lean hashes anything: it is a label: what it is worth is what the hold of that sum in a sandbox is worth. -/
noncomputable def Tryd.pinned : Pinned := { name := "ytlekepigndlbhaadoor", sum := "0fba3541b7b17b8a472129982e1a0ac53c72064a1f2e6b57f38adc7dfb1c4dfc", checked := Tryd.checked }
namespace Rows
def none {H : Type} : Left H := { results := [], args := [] }

/- WHAT THE LISTED PACKAGE-LEVEL VARIABLES READ AS WHEN THE CALL BEGINS. Each datum BY PROGRAM (the guide's laid-datum.mjs) off the statement by which the dump's own 'gosem.cut.vars' lays the variable. In a bare row this is a premise. The card (YtlekepigndlbhaaDoorCards.lean) ties it to the program's text. -/
def laid_thimble_sha_rounds {H : Type} : DataW H := .agg [.lit (.int .u32 1116352408), .lit (.int .u32 1899447441), .lit (.int .u32 3049323471), .lit (.int .u32 3921009573), .lit (.int .u32 961987163), .lit (.int .u32 1508970993), .lit (.int .u32 2453635748), .lit (.int .u32 2870763221), .lit (.int .u32 3624381080), .lit (.int .u32 310598401), .lit (.int .u32 607225278), .lit (.int .u32 1426881987), .lit (.int .u32 1925078388), .lit (.int .u32 2162078206), .lit (.int .u32 2614888103), .lit (.int .u32 3248222580), .lit (.int .u32 3835390401), .lit (.int .u32 4022224774), .lit (.int .u32 264347078), .lit (.int .u32 604807628), .lit (.int .u32 770255983), .lit (.int .u32 1249150122), .lit (.int .u32 1555081692), .lit (.int .u32 1996064986), .lit (.int .u32 2554220882), .lit (.int .u32 2821834349), .lit (.int .u32 2952996808), .lit (.int .u32 3210313671), .lit (.int .u32 3336571891), .lit (.int .u32 3584528711), .lit (.int .u32 113926993), .lit (.int .u32 338241895), .lit (.int .u32 666307205), .lit (.int .u32 773529912), .lit (.int .u32 1294757372), .lit (.int .u32 1396182291), .lit (.int .u32 1695183700), .lit (.int .u32 1986661051), .lit (.int .u32 2177026350), .lit (.int .u32 2456956037), .lit (.int .u32 2730485921), .lit (.int .u32 2820302411), .lit (.int .u32 3259730800), .lit (.int .u32 3345764771), .lit (.int .u32 3516065817), .lit (.int .u32 3600352804), .lit (.int .u32 4094571909), .lit (.int .u32 275423344), .lit (.int .u32 430227734), .lit (.int .u32 506948616), .lit (.int .u32 659060556), .lit (.int .u32 883997877), .lit (.int .u32 958139571), .lit (.int .u32 1322822218), .lit (.int .u32 1537002063), .lit (.int .u32 1747873779), .lit (.int .u32 1955562222), .lit (.int .u32 2024104815), .lit (.int .u32 2227730452), .lit (.int .u32 2361852424), .lit (.int .u32 2428436474), .lit (.int .u32 2756734187), .lit (.int .u32 3204031479), .lit (.int .u32 3329325298)]

/-- 'thimblelaw03.ShaDigests': WHATEVER THE INPUT: true; the input reads as it did. -/
def shaDigestsSpec : ChangeSpec := { name := "shaDigests", fn := fun _ => fun
  | [d] => { results := [.lit (.bool true)], args := [d] }
  | _ => none }
def shaDigestsRow : OpenClaim := { program := "ytlekepigndlbhaadoor", sum := "0fba3541b7b17b8a472129982e1a0ac53c72064a1f2e6b57f38adc7dfb1c4dfc", func := "thimble/thimblelaw03.ShaDigests", spec := "shaDigests", recurses := true, named := ["thimble/sha.rounds"], apart := false, laid := [("thimble/sha.rounds", laid_thimble_sha_rounds)] }
def ShaDigestsSaid : Prop := shaDigestsRow.holds Tryd.pinned (OpenSpec.ofChange shaDigestsSpec)

/-- ITS FALSE NEIGHBOUR: 'it returns false'. Refute it at one input. -/
def shaDigestsWrong : ChangeSpec := { name := "shaDigests", fn := fun _ => fun
  | [d] => { results := [.lit (.bool false)], args := [d] }
  | _ => none }
def ShaDigestsWrongFalsely : Prop := shaDigestsRow.holds Tryd.pinned (OpenSpec.ofChange shaDigestsWrong)

/-- 'thimblelaw03.ShaParts': WHATEVER THE INPUT: true; the input reads as it did. -/
def shaPartsSpec : ChangeSpec := { name := "shaParts", fn := fun _ => fun
  | [d] => { results := [.lit (.bool true)], args := [d] }
  | _ => none }
def shaPartsRow : OpenClaim := { program := "ytlekepigndlbhaadoor", sum := "0fba3541b7b17b8a472129982e1a0ac53c72064a1f2e6b57f38adc7dfb1c4dfc", func := "thimble/thimblelaw03.ShaParts", spec := "shaParts", recurses := true, named := ["thimble/sha.rounds"], apart := false, laid := [("thimble/sha.rounds", laid_thimble_sha_rounds)] }
def ShaPartsSaid : Prop := shaPartsRow.holds Tryd.pinned (OpenSpec.ofChange shaPartsSpec)

/-- ITS FALSE NEIGHBOUR: 'it returns false'. Refute it at one input. -/
def shaPartsWrong : ChangeSpec := { name := "shaParts", fn := fun _ => fun
  | [d] => { results := [.lit (.bool false)], args := [d] }
  | _ => none }
def ShaPartsWrongFalsely : Prop := shaPartsRow.holds Tryd.pinned (OpenSpec.ofChange shaPartsWrong)

/-- 'thimblelaw03.ShaGrows': WHATEVER THE INPUT: true; the input reads as it did. -/
def shaGrowsSpec : ChangeSpec := { name := "shaGrows", fn := fun _ => fun
  | [d] => { results := [.lit (.bool true)], args := [d] }
  | _ => none }
def shaGrowsRow : OpenClaim := { program := "ytlekepigndlbhaadoor", sum := "0fba3541b7b17b8a472129982e1a0ac53c72064a1f2e6b57f38adc7dfb1c4dfc", func := "thimble/thimblelaw03.ShaGrows", spec := "shaGrows", recurses := true, named := ["thimble/sha.rounds"], apart := false, laid := [("thimble/sha.rounds", laid_thimble_sha_rounds)] }
def ShaGrowsSaid : Prop := shaGrowsRow.holds Tryd.pinned (OpenSpec.ofChange shaGrowsSpec)

/-- ITS FALSE NEIGHBOUR: 'it returns false'. Refute it at one input. -/
def shaGrowsWrong : ChangeSpec := { name := "shaGrows", fn := fun _ => fun
  | [d] => { results := [.lit (.bool false)], args := [d] }
  | _ => none }
def ShaGrowsWrongFalsely : Prop := shaGrowsRow.holds Tryd.pinned (OpenSpec.ofChange shaGrowsWrong)

/-- 'thimblelaw03.ShaGoesOn': WHATEVER THE INPUT: true; the input reads as it did. -/
def shaGoesOnSpec : ChangeSpec := { name := "shaGoesOn", fn := fun _ => fun
  | [d1, d2] => { results := [.lit (.bool true)], args := [d1, d2] }
  | _ => none }
def shaGoesOnRow : OpenClaim := { program := "ytlekepigndlbhaadoor", sum := "0fba3541b7b17b8a472129982e1a0ac53c72064a1f2e6b57f38adc7dfb1c4dfc", func := "thimble/thimblelaw03.ShaGoesOn", spec := "shaGoesOn", recurses := true, named := ["thimble/sha.rounds"], apart := false, laid := [("thimble/sha.rounds", laid_thimble_sha_rounds)] }
def ShaGoesOnSaid : Prop := shaGoesOnRow.holds Tryd.pinned (OpenSpec.ofChange shaGoesOnSpec)

/-- ITS FALSE NEIGHBOUR: 'it returns false'. Refute it at one input. -/
def shaGoesOnWrong : ChangeSpec := { name := "shaGoesOn", fn := fun _ => fun
  | [d1, d2] => { results := [.lit (.bool false)], args := [d1, d2] }
  | _ => none }
def ShaGoesOnWrongFalsely : Prop := shaGoesOnRow.holds Tryd.pinned (OpenSpec.ofChange shaGoesOnWrong)

/-- 'thimblelaw03.ShaKnown': WHATEVER THE INPUT: true; the input reads as it did. -/
def shaKnownSpec : ChangeSpec := { name := "shaKnown", fn := fun _ => fun
  | [] => { results := [.lit (.bool true)], args := [] }
  | _ => none }
def shaKnownRow : OpenClaim := { program := "ytlekepigndlbhaadoor", sum := "0fba3541b7b17b8a472129982e1a0ac53c72064a1f2e6b57f38adc7dfb1c4dfc", func := "thimble/thimblelaw03.ShaKnown", spec := "shaKnown", recurses := true, named := ["thimble/sha.rounds"], apart := false, laid := [("thimble/sha.rounds", laid_thimble_sha_rounds)] }
def ShaKnownSaid : Prop := shaKnownRow.holds Tryd.pinned (OpenSpec.ofChange shaKnownSpec)

/-- ITS FALSE NEIGHBOUR: 'it returns false'. Refute it at one input. -/
def shaKnownWrong : ChangeSpec := { name := "shaKnown", fn := fun _ => fun
  | [] => { results := [.lit (.bool false)], args := [] }
  | _ => none }
def ShaKnownWrongFalsely : Prop := shaKnownRow.holds Tryd.pinned (OpenSpec.ofChange shaKnownWrong)

/-- 'thimblelaw04.MacDigests': WHATEVER THE INPUT: true; the input reads as it did. -/
def macDigestsSpec : ChangeSpec := { name := "macDigests", fn := fun _ => fun
  | [d1, d2] => { results := [.lit (.bool true)], args := [d1, d2] }
  | _ => none }
def macDigestsRow : OpenClaim := { program := "ytlekepigndlbhaadoor", sum := "0fba3541b7b17b8a472129982e1a0ac53c72064a1f2e6b57f38adc7dfb1c4dfc", func := "thimble/thimblelaw04.MacDigests", spec := "macDigests", recurses := true, named := ["thimble/sha.rounds"], apart := false, laid := [("thimble/sha.rounds", laid_thimble_sha_rounds)] }
def MacDigestsSaid : Prop := macDigestsRow.holds Tryd.pinned (OpenSpec.ofChange macDigestsSpec)

/-- ITS FALSE NEIGHBOUR: 'it returns false'. Refute it at one input. -/
def macDigestsWrong : ChangeSpec := { name := "macDigests", fn := fun _ => fun
  | [d1, d2] => { results := [.lit (.bool false)], args := [d1, d2] }
  | _ => none }
def MacDigestsWrongFalsely : Prop := macDigestsRow.holds Tryd.pinned (OpenSpec.ofChange macDigestsWrong)

/-- 'thimblelaw04.MacPads': WHATEVER THE INPUT: true; the input reads as it did. -/
def macPadsSpec : ChangeSpec := { name := "macPads", fn := fun _ => fun
  | [d1, d2, d3] => { results := [.lit (.bool true)], args := [d1, d2, d3] }
  | _ => none }
def macPadsRow : OpenClaim := { program := "ytlekepigndlbhaadoor", sum := "0fba3541b7b17b8a472129982e1a0ac53c72064a1f2e6b57f38adc7dfb1c4dfc", func := "thimble/thimblelaw04.MacPads", spec := "macPads", recurses := true, named := ["thimble/sha.rounds"], apart := false, laid := [("thimble/sha.rounds", laid_thimble_sha_rounds)] }
def MacPadsSaid : Prop := macPadsRow.holds Tryd.pinned (OpenSpec.ofChange macPadsSpec)

/-- ITS FALSE NEIGHBOUR: 'it returns false'. Refute it at one input. -/
def macPadsWrong : ChangeSpec := { name := "macPads", fn := fun _ => fun
  | [d1, d2, d3] => { results := [.lit (.bool false)], args := [d1, d2, d3] }
  | _ => none }
def MacPadsWrongFalsely : Prop := macPadsRow.holds Tryd.pinned (OpenSpec.ofChange macPadsWrong)

/-- 'thimblelaw04.MacSame': WHATEVER THE INPUT: true; the input reads as it did. -/
def macSameSpec : ChangeSpec := { name := "macSame", fn := fun _ => fun
  | [d1, d2] => { results := [.lit (.bool true)], args := [d1, d2] }
  | _ => none }
def macSameRow : OpenClaim := { program := "ytlekepigndlbhaadoor", sum := "0fba3541b7b17b8a472129982e1a0ac53c72064a1f2e6b57f38adc7dfb1c4dfc", func := "thimble/thimblelaw04.MacSame", spec := "macSame", recurses := true, named := ["thimble/sha.rounds"], apart := false, laid := [("thimble/sha.rounds", laid_thimble_sha_rounds)] }
def MacSameSaid : Prop := macSameRow.holds Tryd.pinned (OpenSpec.ofChange macSameSpec)

/-- ITS FALSE NEIGHBOUR: 'it returns false'. Refute it at one input. -/
def macSameWrong : ChangeSpec := { name := "macSame", fn := fun _ => fun
  | [d1, d2] => { results := [.lit (.bool false)], args := [d1, d2] }
  | _ => none }
def MacSameWrongFalsely : Prop := macSameRow.holds Tryd.pinned (OpenSpec.ofChange macSameWrong)

/-- 'thimblelaw04.MacTurned': WHATEVER THE INPUT: true; the input reads as it did. -/
def macTurnedSpec : ChangeSpec := { name := "macTurned", fn := fun _ => fun
  | [d1, d2] => { results := [.lit (.bool true)], args := [d1, d2] }
  | _ => none }
def macTurnedRow : OpenClaim := { program := "ytlekepigndlbhaadoor", sum := "0fba3541b7b17b8a472129982e1a0ac53c72064a1f2e6b57f38adc7dfb1c4dfc", func := "thimble/thimblelaw04.MacTurned", spec := "macTurned", recurses := true, named := ["thimble/sha.rounds"], apart := false, laid := [("thimble/sha.rounds", laid_thimble_sha_rounds)] }
def MacTurnedSaid : Prop := macTurnedRow.holds Tryd.pinned (OpenSpec.ofChange macTurnedSpec)

/-- ITS FALSE NEIGHBOUR: 'it returns false'. Refute it at one input. -/
def macTurnedWrong : ChangeSpec := { name := "macTurned", fn := fun _ => fun
  | [d1, d2] => { results := [.lit (.bool false)], args := [d1, d2] }
  | _ => none }
def MacTurnedWrongFalsely : Prop := macTurnedRow.holds Tryd.pinned (OpenSpec.ofChange macTurnedWrong)

/-- 'thimblelaw04.MacKeys': WHATEVER THE INPUT: true; the input reads as it did. -/
def macKeysSpec : ChangeSpec := { name := "macKeys", fn := fun _ => fun
  | [d1, d2, d3] => { results := [.lit (.bool true)], args := [d1, d2, d3] }
  | _ => none }
def macKeysRow : OpenClaim := { program := "ytlekepigndlbhaadoor", sum := "0fba3541b7b17b8a472129982e1a0ac53c72064a1f2e6b57f38adc7dfb1c4dfc", func := "thimble/thimblelaw04.MacKeys", spec := "macKeys", recurses := true, named := ["thimble/sha.rounds"], apart := false, laid := [("thimble/sha.rounds", laid_thimble_sha_rounds)] }
def MacKeysSaid : Prop := macKeysRow.holds Tryd.pinned (OpenSpec.ofChange macKeysSpec)

/-- ITS FALSE NEIGHBOUR: 'it returns false'. Refute it at one input. -/
def macKeysWrong : ChangeSpec := { name := "macKeys", fn := fun _ => fun
  | [d1, d2, d3] => { results := [.lit (.bool false)], args := [d1, d2, d3] }
  | _ => none }
def MacKeysWrongFalsely : Prop := macKeysRow.holds Tryd.pinned (OpenSpec.ofChange macKeysWrong)

/- THE SECOND FORM. 'bulk': how many values and letters a reading holds, each counted each time it is reached (what is shared counts as often as it is met; a slice's spare places count too). A statement '..UptoSaid' is the law's where the arguments, and the package variables that the reading takes, are together of bulk at most 1048576: NARROWER than '..Said'. Prove '..Said' where nothing that the law and all that it calls make is longer than what came in: it says more and counts as full. Else prove '..UptoSaid'. A law counts once. -/
mutual
def uptoBulk {H : Type} : DataW H → Nat
  | .lit (.string bytes) => bytes.length + 1
  | .lit _ => 1
  | .nil => 1
  | .ptr d => uptoBulk d + 1
  | .slice elems spare => uptoBulkAll elems + uptoBulkAll spare + 1
  | .agg parts => uptoBulkAll parts + 1
  | .iface _ d => uptoBulk d + 1
  | .map entries => uptoBulkEntries entries + 1
  | .held _ => 1
def uptoBulkAll {H : Type} : List (DataW H) → Nat
  | [] => 0
  | d :: r => uptoBulk d + uptoBulkAll r
def uptoBulkEntries {H : Type} : List (Lit × DataW H) → Nat
  | [] => 0
  | x :: r => uptoBulkEntry x + uptoBulkEntries r
def uptoBulkEntry {H : Type} : Lit × DataW H → Nat
  | (.string bytes, d) => bytes.length + uptoBulk d + 1
  | (_, d) => uptoBulk d + 1
 end
def uptoSmall : (H : Type) → List (DataW H) → Bool := fun _ ds => decide (uptoBulkAll ds ≤ 1048576)
def OpenSpec.upto (s : _root_.Go.ChangeSpec) : _root_.Go.OpenSpec := { _root_.Go.OpenSpec.ofChange s with cond := some uptoSmall }

/-- 'thimblelaw03.ShaDigests', WHERE WHAT IT READS IS OF BULK AT MOST 1048576: true; the input reads as it did. -/
def shaDigestsUptoRow : OpenClaim := { program := "ytlekepigndlbhaadoor", sum := "0fba3541b7b17b8a472129982e1a0ac53c72064a1f2e6b57f38adc7dfb1c4dfc", func := "thimble/thimblelaw03.ShaDigests", spec := "shaDigests", recurses := true, named := ["thimble/sha.rounds"], apart := false, laid := [("thimble/sha.rounds", laid_thimble_sha_rounds)], narrowed := true }
def ShaDigestsUptoSaid : Prop := shaDigestsUptoRow.holds Tryd.pinned (OpenSpec.upto shaDigestsSpec)

/-- 'thimblelaw03.ShaParts', WHERE WHAT IT READS IS OF BULK AT MOST 1048576: true; the input reads as it did. -/
def shaPartsUptoRow : OpenClaim := { program := "ytlekepigndlbhaadoor", sum := "0fba3541b7b17b8a472129982e1a0ac53c72064a1f2e6b57f38adc7dfb1c4dfc", func := "thimble/thimblelaw03.ShaParts", spec := "shaParts", recurses := true, named := ["thimble/sha.rounds"], apart := false, laid := [("thimble/sha.rounds", laid_thimble_sha_rounds)], narrowed := true }
def ShaPartsUptoSaid : Prop := shaPartsUptoRow.holds Tryd.pinned (OpenSpec.upto shaPartsSpec)

/-- 'thimblelaw03.ShaGrows', WHERE WHAT IT READS IS OF BULK AT MOST 1048576: true; the input reads as it did. -/
def shaGrowsUptoRow : OpenClaim := { program := "ytlekepigndlbhaadoor", sum := "0fba3541b7b17b8a472129982e1a0ac53c72064a1f2e6b57f38adc7dfb1c4dfc", func := "thimble/thimblelaw03.ShaGrows", spec := "shaGrows", recurses := true, named := ["thimble/sha.rounds"], apart := false, laid := [("thimble/sha.rounds", laid_thimble_sha_rounds)], narrowed := true }
def ShaGrowsUptoSaid : Prop := shaGrowsUptoRow.holds Tryd.pinned (OpenSpec.upto shaGrowsSpec)

/-- 'thimblelaw03.ShaGoesOn', WHERE WHAT IT READS IS OF BULK AT MOST 1048576: true; the input reads as it did. -/
def shaGoesOnUptoRow : OpenClaim := { program := "ytlekepigndlbhaadoor", sum := "0fba3541b7b17b8a472129982e1a0ac53c72064a1f2e6b57f38adc7dfb1c4dfc", func := "thimble/thimblelaw03.ShaGoesOn", spec := "shaGoesOn", recurses := true, named := ["thimble/sha.rounds"], apart := false, laid := [("thimble/sha.rounds", laid_thimble_sha_rounds)], narrowed := true }
def ShaGoesOnUptoSaid : Prop := shaGoesOnUptoRow.holds Tryd.pinned (OpenSpec.upto shaGoesOnSpec)

/-- 'thimblelaw03.ShaKnown', WHERE WHAT IT READS IS OF BULK AT MOST 1048576: true; the input reads as it did. -/
def shaKnownUptoRow : OpenClaim := { program := "ytlekepigndlbhaadoor", sum := "0fba3541b7b17b8a472129982e1a0ac53c72064a1f2e6b57f38adc7dfb1c4dfc", func := "thimble/thimblelaw03.ShaKnown", spec := "shaKnown", recurses := true, named := ["thimble/sha.rounds"], apart := false, laid := [("thimble/sha.rounds", laid_thimble_sha_rounds)], narrowed := true }
def ShaKnownUptoSaid : Prop := shaKnownUptoRow.holds Tryd.pinned (OpenSpec.upto shaKnownSpec)

/-- 'thimblelaw04.MacDigests', WHERE WHAT IT READS IS OF BULK AT MOST 1048576: true; the input reads as it did. -/
def macDigestsUptoRow : OpenClaim := { program := "ytlekepigndlbhaadoor", sum := "0fba3541b7b17b8a472129982e1a0ac53c72064a1f2e6b57f38adc7dfb1c4dfc", func := "thimble/thimblelaw04.MacDigests", spec := "macDigests", recurses := true, named := ["thimble/sha.rounds"], apart := false, laid := [("thimble/sha.rounds", laid_thimble_sha_rounds)], narrowed := true }
def MacDigestsUptoSaid : Prop := macDigestsUptoRow.holds Tryd.pinned (OpenSpec.upto macDigestsSpec)

/-- 'thimblelaw04.MacPads', WHERE WHAT IT READS IS OF BULK AT MOST 1048576: true; the input reads as it did. -/
def macPadsUptoRow : OpenClaim := { program := "ytlekepigndlbhaadoor", sum := "0fba3541b7b17b8a472129982e1a0ac53c72064a1f2e6b57f38adc7dfb1c4dfc", func := "thimble/thimblelaw04.MacPads", spec := "macPads", recurses := true, named := ["thimble/sha.rounds"], apart := false, laid := [("thimble/sha.rounds", laid_thimble_sha_rounds)], narrowed := true }
def MacPadsUptoSaid : Prop := macPadsUptoRow.holds Tryd.pinned (OpenSpec.upto macPadsSpec)

/-- 'thimblelaw04.MacSame', WHERE WHAT IT READS IS OF BULK AT MOST 1048576: true; the input reads as it did. -/
def macSameUptoRow : OpenClaim := { program := "ytlekepigndlbhaadoor", sum := "0fba3541b7b17b8a472129982e1a0ac53c72064a1f2e6b57f38adc7dfb1c4dfc", func := "thimble/thimblelaw04.MacSame", spec := "macSame", recurses := true, named := ["thimble/sha.rounds"], apart := false, laid := [("thimble/sha.rounds", laid_thimble_sha_rounds)], narrowed := true }
def MacSameUptoSaid : Prop := macSameUptoRow.holds Tryd.pinned (OpenSpec.upto macSameSpec)

/-- 'thimblelaw04.MacTurned', WHERE WHAT IT READS IS OF BULK AT MOST 1048576: true; the input reads as it did. -/
def macTurnedUptoRow : OpenClaim := { program := "ytlekepigndlbhaadoor", sum := "0fba3541b7b17b8a472129982e1a0ac53c72064a1f2e6b57f38adc7dfb1c4dfc", func := "thimble/thimblelaw04.MacTurned", spec := "macTurned", recurses := true, named := ["thimble/sha.rounds"], apart := false, laid := [("thimble/sha.rounds", laid_thimble_sha_rounds)], narrowed := true }
def MacTurnedUptoSaid : Prop := macTurnedUptoRow.holds Tryd.pinned (OpenSpec.upto macTurnedSpec)

/-- 'thimblelaw04.MacKeys', WHERE WHAT IT READS IS OF BULK AT MOST 1048576: true; the input reads as it did. -/
def macKeysUptoRow : OpenClaim := { program := "ytlekepigndlbhaadoor", sum := "0fba3541b7b17b8a472129982e1a0ac53c72064a1f2e6b57f38adc7dfb1c4dfc", func := "thimble/thimblelaw04.MacKeys", spec := "macKeys", recurses := true, named := ["thimble/sha.rounds"], apart := false, laid := [("thimble/sha.rounds", laid_thimble_sha_rounds)], narrowed := true }
def MacKeysUptoSaid : Prop := macKeysUptoRow.holds Tryd.pinned (OpenSpec.upto macKeysSpec)

end Rows
end Go.Proofs.YtlekepigndlbhaaDoor
