/-
  No cell of these rows narrows 'for every input' (looked for: loops, veiled, ifaces, maps, wideKeys, modest, calm, conditions, laid).
  DERIVED. THE GIVEN ROWS OF THIS SEAT. 10 by the template 'for every input the law returns true; each argument reads behind the call as it read before'; 0 by the template 'total and deterministic' (their statements: YtckfifghipkedaaTotals.lean).
  GIVEN WITH THE SEED: the statements are not yours to turn. If you find one false, say at which input.
  Laid BY PROGRAM, IN A SANDBOX (cutbox-rows.mjs): the forced cells as the released guide's own fill.sh prints them over the translation 4b050d7ebb9fb9b0… (all of the seat's roots in one cut). By AI agents, Wed Nov 11 2026. No macro, syntax, notation, axiom, sorry.
-/
import Derived.Test.YtckfifghipkedaaChecked
import GoSem.Claim
import GoSem.ClaimJoined
import GoSem.ClaimMapViews
import Derived.JoinedTies
import Derived.KernelRfl
namespace Go.Proofs.Ytckfifghipkedaa
/- THE CELL 'sum', in the pinned program and in every row, IS THE sha256 OF THE DUMP (.gsa) THAT YtckfifghipkedaaProg.lean LOADS. Nothing in Lean hashes anything: it is a label: what it is worth is what the hold of that sum in a sandbox is worth. -/
noncomputable def Try.pinned : Pinned := { name := "ytckfifghipkedaa", sum := "4b050d7ebb9fb9b052c8b26ba28c1fef7fffe58f264fc1b7585b1dc0f7ef80fc", checked := Try.checked }
namespace Rows
def none {H : Type} : Left H := { results := [], args := [] }

/-- 'greatseallaw02.HashMixes': WHATEVER THE INPUT: true; the input reads as it did. -/
def hashMixesSpec : ChangeSpec := { name := "hashMixes", fn := fun _ => fun
  | [d] => { results := [.lit (.bool true)], args := [d] }
  | _ => none }
def hashMixesRow : OpenClaim := { program := "ytckfifghipkedaa", sum := "4b050d7ebb9fb9b052c8b26ba28c1fef7fffe58f264fc1b7585b1dc0f7ef80fc", func := "greatseal/greatseallaw02.HashMixes", spec := "hashMixes", inPlace := ["math/bits.Add64"], unfollowed := true, recurses := true, named := ["math/bits.divideError", "math/bits.overflowError"], apart := false }
def HashMixesSaid : Prop := hashMixesRow.holds Try.pinned (OpenSpec.ofChange hashMixesSpec)

/-- ITS FALSE NEIGHBOUR: 'it returns false'. Refute it at one input. -/
def hashMixesWrong : ChangeSpec := { name := "hashMixes", fn := fun _ => fun
  | [d] => { results := [.lit (.bool false)], args := [d] }
  | _ => none }
def HashMixesWrongFalsely : Prop := hashMixesRow.holds Try.pinned (OpenSpec.ofChange hashMixesWrong)

/-- 'greatseallaw02.HashSums': WHATEVER THE INPUT: true; the input reads as it did. -/
def hashSumsSpec : ChangeSpec := { name := "hashSums", fn := fun _ => fun
  | [d] => { results := [.lit (.bool true)], args := [d] }
  | _ => none }
def hashSumsRow : OpenClaim := { program := "ytckfifghipkedaa", sum := "4b050d7ebb9fb9b052c8b26ba28c1fef7fffe58f264fc1b7585b1dc0f7ef80fc", func := "greatseal/greatseallaw02.HashSums", spec := "hashSums", inPlace := ["math/bits.Add64"], unfollowed := true, recurses := true, named := ["math/bits.divideError", "math/bits.overflowError"], apart := false }
def HashSumsSaid : Prop := hashSumsRow.holds Try.pinned (OpenSpec.ofChange hashSumsSpec)

/-- ITS FALSE NEIGHBOUR: 'it returns false'. Refute it at one input. -/
def hashSumsWrong : ChangeSpec := { name := "hashSums", fn := fun _ => fun
  | [d] => { results := [.lit (.bool false)], args := [d] }
  | _ => none }
def HashSumsWrongFalsely : Prop := hashSumsRow.holds Try.pinned (OpenSpec.ofChange hashSumsWrong)

/-- 'greatseallaw02.HashTags': WHATEVER THE INPUT: true; the input reads as it did. -/
def hashTagsSpec : ChangeSpec := { name := "hashTags", fn := fun _ => fun
  | [d1, d2, d3, d4] => { results := [.lit (.bool true)], args := [d1, d2, d3, d4] }
  | _ => none }
def hashTagsRow : OpenClaim := { program := "ytckfifghipkedaa", sum := "4b050d7ebb9fb9b052c8b26ba28c1fef7fffe58f264fc1b7585b1dc0f7ef80fc", func := "greatseal/greatseallaw02.HashTags", spec := "hashTags", inPlace := ["math/bits.Add64"], unfollowed := true, recurses := true, named := ["math/bits.divideError", "math/bits.overflowError"], apart := false }
def HashTagsSaid : Prop := hashTagsRow.holds Try.pinned (OpenSpec.ofChange hashTagsSpec)

/-- ITS FALSE NEIGHBOUR: 'it returns false'. Refute it at one input. -/
def hashTagsWrong : ChangeSpec := { name := "hashTags", fn := fun _ => fun
  | [d1, d2, d3, d4] => { results := [.lit (.bool false)], args := [d1, d2, d3, d4] }
  | _ => none }
def HashTagsWrongFalsely : Prop := hashTagsRow.holds Try.pinned (OpenSpec.ofChange hashTagsWrong)

/-- 'greatseallaw02.HashTells': WHATEVER THE INPUT: true; the input reads as it did. -/
def hashTellsSpec : ChangeSpec := { name := "hashTells", fn := fun _ => fun
  | [d1, d2, d3] => { results := [.lit (.bool true)], args := [d1, d2, d3] }
  | _ => none }
def hashTellsRow : OpenClaim := { program := "ytckfifghipkedaa", sum := "4b050d7ebb9fb9b052c8b26ba28c1fef7fffe58f264fc1b7585b1dc0f7ef80fc", func := "greatseal/greatseallaw02.HashTells", spec := "hashTells", inPlace := ["math/bits.Add64"], unfollowed := true, recurses := true, named := ["math/bits.divideError", "math/bits.overflowError"], apart := false }
def HashTellsSaid : Prop := hashTellsRow.holds Try.pinned (OpenSpec.ofChange hashTellsSpec)

/-- ITS FALSE NEIGHBOUR: 'it returns false'. Refute it at one input. -/
def hashTellsWrong : ChangeSpec := { name := "hashTells", fn := fun _ => fun
  | [d1, d2, d3] => { results := [.lit (.bool false)], args := [d1, d2, d3] }
  | _ => none }
def HashTellsWrongFalsely : Prop := hashTellsRow.holds Try.pinned (OpenSpec.ofChange hashTellsWrong)

/-- 'greatseallaw02.HashSteps': WHATEVER THE INPUT: true; the input reads as it did. -/
def hashStepsSpec : ChangeSpec := { name := "hashSteps", fn := fun _ => fun
  | [d] => { results := [.lit (.bool true)], args := [d] }
  | _ => none }
def hashStepsRow : OpenClaim := { program := "ytckfifghipkedaa", sum := "4b050d7ebb9fb9b052c8b26ba28c1fef7fffe58f264fc1b7585b1dc0f7ef80fc", func := "greatseal/greatseallaw02.HashSteps", spec := "hashSteps", inPlace := ["math/bits.Add64"], unfollowed := true, recurses := true, named := ["math/bits.divideError", "math/bits.overflowError"], apart := false }
def HashStepsSaid : Prop := hashStepsRow.holds Try.pinned (OpenSpec.ofChange hashStepsSpec)

/-- ITS FALSE NEIGHBOUR: 'it returns false'. Refute it at one input. -/
def hashStepsWrong : ChangeSpec := { name := "hashSteps", fn := fun _ => fun
  | [d] => { results := [.lit (.bool false)], args := [d] }
  | _ => none }
def HashStepsWrongFalsely : Prop := hashStepsRow.holds Try.pinned (OpenSpec.ofChange hashStepsWrong)

/-- 'greatseallaw02.HashParts': WHATEVER THE INPUT: true; the input reads as it did. -/
def hashPartsSpec : ChangeSpec := { name := "hashParts", fn := fun _ => fun
  | [d1, d2] => { results := [.lit (.bool true)], args := [d1, d2] }
  | _ => none }
def hashPartsRow : OpenClaim := { program := "ytckfifghipkedaa", sum := "4b050d7ebb9fb9b052c8b26ba28c1fef7fffe58f264fc1b7585b1dc0f7ef80fc", func := "greatseal/greatseallaw02.HashParts", spec := "hashParts", inPlace := ["math/bits.Add64"], unfollowed := true, recurses := true, named := ["math/bits.divideError", "math/bits.overflowError"], apart := false }
def HashPartsSaid : Prop := hashPartsRow.holds Try.pinned (OpenSpec.ofChange hashPartsSpec)

/-- ITS FALSE NEIGHBOUR: 'it returns false'. Refute it at one input. -/
def hashPartsWrong : ChangeSpec := { name := "hashParts", fn := fun _ => fun
  | [d1, d2] => { results := [.lit (.bool false)], args := [d1, d2] }
  | _ => none }
def HashPartsWrongFalsely : Prop := hashPartsRow.holds Try.pinned (OpenSpec.ofChange hashPartsWrong)

/-- 'greatseallaw02.HashBack': WHATEVER THE INPUT: true; the input reads as it did. -/
def hashBackSpec : ChangeSpec := { name := "hashBack", fn := fun _ => fun
  | [d1, d2] => { results := [.lit (.bool true)], args := [d1, d2] }
  | _ => none }
def hashBackRow : OpenClaim := { program := "ytckfifghipkedaa", sum := "4b050d7ebb9fb9b052c8b26ba28c1fef7fffe58f264fc1b7585b1dc0f7ef80fc", func := "greatseal/greatseallaw02.HashBack", spec := "hashBack", inPlace := ["math/bits.Add64"], unfollowed := true, recurses := true, named := ["math/bits.divideError", "math/bits.overflowError"], apart := false }
def HashBackSaid : Prop := hashBackRow.holds Try.pinned (OpenSpec.ofChange hashBackSpec)

/-- ITS FALSE NEIGHBOUR: 'it returns false'. Refute it at one input. -/
def hashBackWrong : ChangeSpec := { name := "hashBack", fn := fun _ => fun
  | [d1, d2] => { results := [.lit (.bool false)], args := [d1, d2] }
  | _ => none }
def HashBackWrongFalsely : Prop := hashBackRow.holds Try.pinned (OpenSpec.ofChange hashBackWrong)

/-- 'greatseallaw02.HashNums': WHATEVER THE INPUT: true; the input reads as it did. -/
def hashNumsSpec : ChangeSpec := { name := "hashNums", fn := fun _ => fun
  | [d1, d2, d3] => { results := [.lit (.bool true)], args := [d1, d2, d3] }
  | _ => none }
def hashNumsRow : OpenClaim := { program := "ytckfifghipkedaa", sum := "4b050d7ebb9fb9b052c8b26ba28c1fef7fffe58f264fc1b7585b1dc0f7ef80fc", func := "greatseal/greatseallaw02.HashNums", spec := "hashNums", inPlace := ["math/bits.Add64"], unfollowed := true, recurses := true, named := ["math/bits.divideError", "math/bits.overflowError"], apart := false }
def HashNumsSaid : Prop := hashNumsRow.holds Try.pinned (OpenSpec.ofChange hashNumsSpec)

/-- ITS FALSE NEIGHBOUR: 'it returns false'. Refute it at one input. -/
def hashNumsWrong : ChangeSpec := { name := "hashNums", fn := fun _ => fun
  | [d1, d2, d3] => { results := [.lit (.bool false)], args := [d1, d2, d3] }
  | _ => none }
def HashNumsWrongFalsely : Prop := hashNumsRow.holds Try.pinned (OpenSpec.ofChange hashNumsWrong)

/-- 'greatseallaw02.HashTurns': WHATEVER THE INPUT: true; the input reads as it did. -/
def hashTurnsSpec : ChangeSpec := { name := "hashTurns", fn := fun _ => fun
  | [d] => { results := [.lit (.bool true)], args := [d] }
  | _ => none }
def hashTurnsRow : OpenClaim := { program := "ytckfifghipkedaa", sum := "4b050d7ebb9fb9b052c8b26ba28c1fef7fffe58f264fc1b7585b1dc0f7ef80fc", func := "greatseal/greatseallaw02.HashTurns", spec := "hashTurns", inPlace := ["math/bits.Add64"], unfollowed := true, recurses := true, named := ["math/bits.divideError", "math/bits.overflowError"], apart := false }
def HashTurnsSaid : Prop := hashTurnsRow.holds Try.pinned (OpenSpec.ofChange hashTurnsSpec)

/-- ITS FALSE NEIGHBOUR: 'it returns false'. Refute it at one input. -/
def hashTurnsWrong : ChangeSpec := { name := "hashTurns", fn := fun _ => fun
  | [d] => { results := [.lit (.bool false)], args := [d] }
  | _ => none }
def HashTurnsWrongFalsely : Prop := hashTurnsRow.holds Try.pinned (OpenSpec.ofChange hashTurnsWrong)

/-- 'greatseallaw02.HashReaches': WHATEVER THE INPUT: true; the input reads as it did. -/
def hashReachesSpec : ChangeSpec := { name := "hashReaches", fn := fun _ => fun
  | [d] => { results := [.lit (.bool true)], args := [d] }
  | _ => none }
def hashReachesRow : OpenClaim := { program := "ytckfifghipkedaa", sum := "4b050d7ebb9fb9b052c8b26ba28c1fef7fffe58f264fc1b7585b1dc0f7ef80fc", func := "greatseal/greatseallaw02.HashReaches", spec := "hashReaches", inPlace := ["math/bits.Add64"], unfollowed := true, recurses := true, named := ["math/bits.divideError", "math/bits.overflowError"], apart := false }
def HashReachesSaid : Prop := hashReachesRow.holds Try.pinned (OpenSpec.ofChange hashReachesSpec)

/-- ITS FALSE NEIGHBOUR: 'it returns false'. Refute it at one input. -/
def hashReachesWrong : ChangeSpec := { name := "hashReaches", fn := fun _ => fun
  | [d] => { results := [.lit (.bool false)], args := [d] }
  | _ => none }
def HashReachesWrongFalsely : Prop := hashReachesRow.holds Try.pinned (OpenSpec.ofChange hashReachesWrong)

/- THE SECOND FORM. 'bulk': how many values and letters a reading holds, each counted each time it is reached (what is shared counts as often as it is met; a slice's spare places count too). A statement '..UptoSaid' is the law's where the arguments, and the package variables that the reading takes, are together of bulk at most 1048576: NARROWER than '..Said'. Prove '..Said' where nothing that the law and all that it calls make is longer than what came in: it says more and counts as full. Else prove '..UptoSaid'. A law counts once. -/
mutual
def uptoBulk {H : Type} : DataW H → Nat
  | .lit (.string bytes) => bytes.length + 1
  | .lit _ => 1
  | .nil => 1
  | .ptr d => uptoBulk d + 1
  | .slice elems spare => uptoBulkAll elems + uptoBulkAll spare + 1
  | .agg parts => uptoBulkAll parts + 1
  | .iface _ d => uptoBulk d + 1
  | .map entries => uptoBulkEntries entries + 1
  | .held _ => 1
def uptoBulkAll {H : Type} : List (DataW H) → Nat
  | [] => 0
  | d :: r => uptoBulk d + uptoBulkAll r
def uptoBulkEntries {H : Type} : List (Lit × DataW H) → Nat
  | [] => 0
  | x :: r => uptoBulkEntry x + uptoBulkEntries r
def uptoBulkEntry {H : Type} : Lit × DataW H → Nat
  | (.string bytes, d) => bytes.length + uptoBulk d + 1
  | (_, d) => uptoBulk d + 1
 end
def uptoSmall : (H : Type) → List (DataW H) → Bool := fun _ ds => decide (uptoBulkAll ds ≤ 1048576)
def OpenSpec.upto (s : _root_.Go.ChangeSpec) : _root_.Go.OpenSpec := { _root_.Go.OpenSpec.ofChange s with cond := some uptoSmall }

/-- 'greatseallaw02.HashMixes', WHERE WHAT IT READS IS OF BULK AT MOST 1048576: true; the input reads as it did. -/
def hashMixesUptoRow : OpenClaim := { program := "ytckfifghipkedaa", sum := "4b050d7ebb9fb9b052c8b26ba28c1fef7fffe58f264fc1b7585b1dc0f7ef80fc", func := "greatseal/greatseallaw02.HashMixes", spec := "hashMixes", inPlace := ["math/bits.Add64"], unfollowed := true, recurses := true, named := ["math/bits.divideError", "math/bits.overflowError"], apart := false, narrowed := true }
def HashMixesUptoSaid : Prop := hashMixesUptoRow.holds Try.pinned (OpenSpec.upto hashMixesSpec)

/-- 'greatseallaw02.HashSums', WHERE WHAT IT READS IS OF BULK AT MOST 1048576: true; the input reads as it did. -/
def hashSumsUptoRow : OpenClaim := { program := "ytckfifghipkedaa", sum := "4b050d7ebb9fb9b052c8b26ba28c1fef7fffe58f264fc1b7585b1dc0f7ef80fc", func := "greatseal/greatseallaw02.HashSums", spec := "hashSums", inPlace := ["math/bits.Add64"], unfollowed := true, recurses := true, named := ["math/bits.divideError", "math/bits.overflowError"], apart := false, narrowed := true }
def HashSumsUptoSaid : Prop := hashSumsUptoRow.holds Try.pinned (OpenSpec.upto hashSumsSpec)

/-- 'greatseallaw02.HashTags', WHERE WHAT IT READS IS OF BULK AT MOST 1048576: true; the input reads as it did. -/
def hashTagsUptoRow : OpenClaim := { program := "ytckfifghipkedaa", sum := "4b050d7ebb9fb9b052c8b26ba28c1fef7fffe58f264fc1b7585b1dc0f7ef80fc", func := "greatseal/greatseallaw02.HashTags", spec := "hashTags", inPlace := ["math/bits.Add64"], unfollowed := true, recurses := true, named := ["math/bits.divideError", "math/bits.overflowError"], apart := false, narrowed := true }
def HashTagsUptoSaid : Prop := hashTagsUptoRow.holds Try.pinned (OpenSpec.upto hashTagsSpec)

/-- 'greatseallaw02.HashTells', WHERE WHAT IT READS IS OF BULK AT MOST 1048576: true; the input reads as it did. -/
def hashTellsUptoRow : OpenClaim := { program := "ytckfifghipkedaa", sum := "4b050d7ebb9fb9b052c8b26ba28c1fef7fffe58f264fc1b7585b1dc0f7ef80fc", func := "greatseal/greatseallaw02.HashTells", spec := "hashTells", inPlace := ["math/bits.Add64"], unfollowed := true, recurses := true, named := ["math/bits.divideError", "math/bits.overflowError"], apart := false, narrowed := true }
def HashTellsUptoSaid : Prop := hashTellsUptoRow.holds Try.pinned (OpenSpec.upto hashTellsSpec)

/-- 'greatseallaw02.HashSteps', WHERE WHAT IT READS IS OF BULK AT MOST 1048576: true; the input reads as it did. -/
def hashStepsUptoRow : OpenClaim := { program := "ytckfifghipkedaa", sum := "4b050d7ebb9fb9b052c8b26ba28c1fef7fffe58f264fc1b7585b1dc0f7ef80fc", func := "greatseal/greatseallaw02.HashSteps", spec := "hashSteps", inPlace := ["math/bits.Add64"], unfollowed := true, recurses := true, named := ["math/bits.divideError", "math/bits.overflowError"], apart := false, narrowed := true }
def HashStepsUptoSaid : Prop := hashStepsUptoRow.holds Try.pinned (OpenSpec.upto hashStepsSpec)

/-- 'greatseallaw02.HashParts', WHERE WHAT IT READS IS OF BULK AT MOST 1048576: true; the input reads as it did. -/
def hashPartsUptoRow : OpenClaim := { program := "ytckfifghipkedaa", sum := "4b050d7ebb9fb9b052c8b26ba28c1fef7fffe58f264fc1b7585b1dc0f7ef80fc", func := "greatseal/greatseallaw02.HashParts", spec := "hashParts", inPlace := ["math/bits.Add64"], unfollowed := true, recurses := true, named := ["math/bits.divideError", "math/bits.overflowError"], apart := false, narrowed := true }
def HashPartsUptoSaid : Prop := hashPartsUptoRow.holds Try.pinned (OpenSpec.upto hashPartsSpec)

/-- 'greatseallaw02.HashBack', WHERE WHAT IT READS IS OF BULK AT MOST 1048576: true; the input reads as it did. -/
def hashBackUptoRow : OpenClaim := { program := "ytckfifghipkedaa", sum := "4b050d7ebb9fb9b052c8b26ba28c1fef7fffe58f264fc1b7585b1dc0f7ef80fc", func := "greatseal/greatseallaw02.HashBack", spec := "hashBack", inPlace := ["math/bits.Add64"], unfollowed := true, recurses := true, named := ["math/bits.divideError", "math/bits.overflowError"], apart := false, narrowed := true }
def HashBackUptoSaid : Prop := hashBackUptoRow.holds Try.pinned (OpenSpec.upto hashBackSpec)

/-- 'greatseallaw02.HashNums', WHERE WHAT IT READS IS OF BULK AT MOST 1048576: true; the input reads as it did. -/
def hashNumsUptoRow : OpenClaim := { program := "ytckfifghipkedaa", sum := "4b050d7ebb9fb9b052c8b26ba28c1fef7fffe58f264fc1b7585b1dc0f7ef80fc", func := "greatseal/greatseallaw02.HashNums", spec := "hashNums", inPlace := ["math/bits.Add64"], unfollowed := true, recurses := true, named := ["math/bits.divideError", "math/bits.overflowError"], apart := false, narrowed := true }
def HashNumsUptoSaid : Prop := hashNumsUptoRow.holds Try.pinned (OpenSpec.upto hashNumsSpec)

/-- 'greatseallaw02.HashTurns', WHERE WHAT IT READS IS OF BULK AT MOST 1048576: true; the input reads as it did. -/
def hashTurnsUptoRow : OpenClaim := { program := "ytckfifghipkedaa", sum := "4b050d7ebb9fb9b052c8b26ba28c1fef7fffe58f264fc1b7585b1dc0f7ef80fc", func := "greatseal/greatseallaw02.HashTurns", spec := "hashTurns", inPlace := ["math/bits.Add64"], unfollowed := true, recurses := true, named := ["math/bits.divideError", "math/bits.overflowError"], apart := false, narrowed := true }
def HashTurnsUptoSaid : Prop := hashTurnsUptoRow.holds Try.pinned (OpenSpec.upto hashTurnsSpec)

/-- 'greatseallaw02.HashReaches', WHERE WHAT IT READS IS OF BULK AT MOST 1048576: true; the input reads as it did. -/
def hashReachesUptoRow : OpenClaim := { program := "ytckfifghipkedaa", sum := "4b050d7ebb9fb9b052c8b26ba28c1fef7fffe58f264fc1b7585b1dc0f7ef80fc", func := "greatseal/greatseallaw02.HashReaches", spec := "hashReaches", inPlace := ["math/bits.Add64"], unfollowed := true, recurses := true, named := ["math/bits.divideError", "math/bits.overflowError"], apart := false, narrowed := true }
def HashReachesUptoSaid : Prop := hashReachesUptoRow.holds Try.pinned (OpenSpec.upto hashReachesSpec)

end Rows
end Go.Proofs.Ytckfifghipkedaa
