/-
  No cell of these rows narrows 'for every input' (looked for: loops, veiled, ifaces, maps, wideKeys, modest, calm, conditions, laid).
  DERIVED. THE GIVEN ROWS OF THIS SEAT. 9 by the template 'for every input the law returns true; each argument reads behind the call as it read before'; 0 by the template 'total and deterministic' (their statements: YtaibpldolbemfaaTotals.lean).
  GIVEN WITH THE SEED: the statements are not yours to turn. If you find one false, say at which input.
  Laid BY PROGRAM, IN A SANDBOX (cutbox-rows.mjs): the forced cells as the released guide's own fill.sh prints them over the translation fd2cb5833ed11e88… (all of the seat's roots in one cut). By AI agents, Wed Nov 11 2026. No macro, syntax, notation, axiom, sorry.
-/
import Derived.Test.YtaibpldolbemfaaChecked
import GoSem.Claim
import GoSem.ClaimJoined
import GoSem.ClaimMapViews
import Derived.JoinedTies
import Derived.KernelRfl
namespace Go.Proofs.Ytaibpldolbemfaa
/- THE CELL 'sum', in the pinned program and in every row, IS THE sha256 OF THE DUMP (.gsa) THAT YtaibpldolbemfaaProg.lean LOADS. Nothing in Lean hashes anything: it is a label: what it is worth is what the hold of that sum in a sandbox is worth. -/
noncomputable def Try.pinned : Pinned := { name := "ytaibpldolbemfaa", sum := "fd2cb5833ed11e88691e032bd652b5e7d63b104544880dff3b993f4bd730c7e2", checked := Try.checked }
namespace Rows
def none {H : Type} : Left H := { results := [], args := [] }

/-- 'greatseallaw05.ShareSplits': WHATEVER THE INPUT: true; the input reads as it did. -/
def shareSplitsSpec : ChangeSpec := { name := "shareSplits", fn := fun _ => fun
  | [d1, d2, d3, d4, d5] => { results := [.lit (.bool true)], args := [d1, d2, d3, d4, d5] }
  | _ => none }
def shareSplitsRow : OpenClaim := { program := "ytaibpldolbemfaa", sum := "fd2cb5833ed11e88691e032bd652b5e7d63b104544880dff3b993f4bd730c7e2", func := "greatseal/greatseallaw05.ShareSplits", spec := "shareSplits", inPlace := ["math/bits.Add64"], unfollowed := true, recurses := true, named := ["math/bits.divideError", "math/bits.overflowError"], apart := false }
def ShareSplitsSaid : Prop := shareSplitsRow.holds Try.pinned (OpenSpec.ofChange shareSplitsSpec)

/-- ITS FALSE NEIGHBOUR: 'it returns false'. Refute it at one input. -/
def shareSplitsWrong : ChangeSpec := { name := "shareSplits", fn := fun _ => fun
  | [d1, d2, d3, d4, d5] => { results := [.lit (.bool false)], args := [d1, d2, d3, d4, d5] }
  | _ => none }
def ShareSplitsWrongFalsely : Prop := shareSplitsRow.holds Try.pinned (OpenSpec.ofChange shareSplitsWrong)

/-- 'greatseallaw05.ShareJoins': WHATEVER THE INPUT: true; the input reads as it did. -/
def shareJoinsSpec : ChangeSpec := { name := "shareJoins", fn := fun _ => fun
  | [d1, d2, d3] => { results := [.lit (.bool true)], args := [d1, d2, d3] }
  | _ => none }
def shareJoinsRow : OpenClaim := { program := "ytaibpldolbemfaa", sum := "fd2cb5833ed11e88691e032bd652b5e7d63b104544880dff3b993f4bd730c7e2", func := "greatseal/greatseallaw05.ShareJoins", spec := "shareJoins", inPlace := ["math/bits.Add64"], unfollowed := true, recurses := true, named := ["math/bits.divideError", "math/bits.overflowError"], apart := false }
def ShareJoinsSaid : Prop := shareJoinsRow.holds Try.pinned (OpenSpec.ofChange shareJoinsSpec)

/-- ITS FALSE NEIGHBOUR: 'it returns false'. Refute it at one input. -/
def shareJoinsWrong : ChangeSpec := { name := "shareJoins", fn := fun _ => fun
  | [d1, d2, d3] => { results := [.lit (.bool false)], args := [d1, d2, d3] }
  | _ => none }
def ShareJoinsWrongFalsely : Prop := shareJoinsRow.holds Try.pinned (OpenSpec.ofChange shareJoinsWrong)

/-- 'greatseallaw05.ShareChecks': WHATEVER THE INPUT: true; the input reads as it did. -/
def shareChecksSpec : ChangeSpec := { name := "shareChecks", fn := fun _ => fun
  | [d1, d2] => { results := [.lit (.bool true)], args := [d1, d2] }
  | _ => none }
def shareChecksRow : OpenClaim := { program := "ytaibpldolbemfaa", sum := "fd2cb5833ed11e88691e032bd652b5e7d63b104544880dff3b993f4bd730c7e2", func := "greatseal/greatseallaw05.ShareChecks", spec := "shareChecks", inPlace := ["math/bits.Add64"], unfollowed := true, recurses := true, named := ["math/bits.divideError", "math/bits.overflowError"], apart := false }
def ShareChecksSaid : Prop := shareChecksRow.holds Try.pinned (OpenSpec.ofChange shareChecksSpec)

/-- ITS FALSE NEIGHBOUR: 'it returns false'. Refute it at one input. -/
def shareChecksWrong : ChangeSpec := { name := "shareChecks", fn := fun _ => fun
  | [d1, d2] => { results := [.lit (.bool false)], args := [d1, d2] }
  | _ => none }
def ShareChecksWrongFalsely : Prop := shareChecksRow.holds Try.pinned (OpenSpec.ofChange shareChecksWrong)

/-- 'greatseallaw05.ShareBack': WHATEVER THE INPUT: true; the input reads as it did. -/
def shareBackSpec : ChangeSpec := { name := "shareBack", fn := fun _ => fun
  | [d1, d2, d3, d4, d5, d6, d7] => { results := [.lit (.bool true)], args := [d1, d2, d3, d4, d5, d6, d7] }
  | _ => none }
def shareBackRow : OpenClaim := { program := "ytaibpldolbemfaa", sum := "fd2cb5833ed11e88691e032bd652b5e7d63b104544880dff3b993f4bd730c7e2", func := "greatseal/greatseallaw05.ShareBack", spec := "shareBack", inPlace := ["math/bits.Add64"], unfollowed := true, recurses := true, named := ["math/bits.divideError", "math/bits.overflowError"], apart := false }
def ShareBackSaid : Prop := shareBackRow.holds Try.pinned (OpenSpec.ofChange shareBackSpec)

/-- ITS FALSE NEIGHBOUR: 'it returns false'. Refute it at one input. -/
def shareBackWrong : ChangeSpec := { name := "shareBack", fn := fun _ => fun
  | [d1, d2, d3, d4, d5, d6, d7] => { results := [.lit (.bool false)], args := [d1, d2, d3, d4, d5, d6, d7] }
  | _ => none }
def ShareBackWrongFalsely : Prop := shareBackRow.holds Try.pinned (OpenSpec.ofChange shareBackWrong)

/-- 'greatseallaw05.ShareHides': WHATEVER THE INPUT: true; the input reads as it did. -/
def shareHidesSpec : ChangeSpec := { name := "shareHides", fn := fun _ => fun
  | [d1, d2, d3, d4, d5] => { results := [.lit (.bool true)], args := [d1, d2, d3, d4, d5] }
  | _ => none }
def shareHidesRow : OpenClaim := { program := "ytaibpldolbemfaa", sum := "fd2cb5833ed11e88691e032bd652b5e7d63b104544880dff3b993f4bd730c7e2", func := "greatseal/greatseallaw05.ShareHides", spec := "shareHides", inPlace := ["math/bits.Add64"], unfollowed := true, recurses := true, named := ["math/bits.divideError", "math/bits.overflowError"], apart := false }
def ShareHidesSaid : Prop := shareHidesRow.holds Try.pinned (OpenSpec.ofChange shareHidesSpec)

/-- ITS FALSE NEIGHBOUR: 'it returns false'. Refute it at one input. -/
def shareHidesWrong : ChangeSpec := { name := "shareHides", fn := fun _ => fun
  | [d1, d2, d3, d4, d5] => { results := [.lit (.bool false)], args := [d1, d2, d3, d4, d5] }
  | _ => none }
def ShareHidesWrongFalsely : Prop := shareHidesRow.holds Try.pinned (OpenSpec.ofChange shareHidesWrong)

/-- 'greatseallaw05.ShareSums': WHATEVER THE INPUT: true; the input reads as it did. -/
def shareSumsSpec : ChangeSpec := { name := "shareSums", fn := fun _ => fun
  | [d1, d2, d3, d4, d5, d6] => { results := [.lit (.bool true)], args := [d1, d2, d3, d4, d5, d6] }
  | _ => none }
def shareSumsRow : OpenClaim := { program := "ytaibpldolbemfaa", sum := "fd2cb5833ed11e88691e032bd652b5e7d63b104544880dff3b993f4bd730c7e2", func := "greatseal/greatseallaw05.ShareSums", spec := "shareSums", inPlace := ["math/bits.Add64"], unfollowed := true, recurses := true, named := ["math/bits.divideError", "math/bits.overflowError"], apart := false }
def ShareSumsSaid : Prop := shareSumsRow.holds Try.pinned (OpenSpec.ofChange shareSumsSpec)

/-- ITS FALSE NEIGHBOUR: 'it returns false'. Refute it at one input. -/
def shareSumsWrong : ChangeSpec := { name := "shareSums", fn := fun _ => fun
  | [d1, d2, d3, d4, d5, d6] => { results := [.lit (.bool false)], args := [d1, d2, d3, d4, d5, d6] }
  | _ => none }
def ShareSumsWrongFalsely : Prop := shareSumsRow.holds Try.pinned (OpenSpec.ofChange shareSumsWrong)

/-- 'greatseallaw05.SharePublic': WHATEVER THE INPUT: true; the input reads as it did. -/
def sharePublicSpec : ChangeSpec := { name := "sharePublic", fn := fun _ => fun
  | [d1, d2, d3, d4, d5] => { results := [.lit (.bool true)], args := [d1, d2, d3, d4, d5] }
  | _ => none }
def sharePublicRow : OpenClaim := { program := "ytaibpldolbemfaa", sum := "fd2cb5833ed11e88691e032bd652b5e7d63b104544880dff3b993f4bd730c7e2", func := "greatseal/greatseallaw05.SharePublic", spec := "sharePublic", inPlace := ["math/bits.Add64"], unfollowed := true, recurses := true, named := ["math/bits.divideError", "math/bits.overflowError"], apart := false }
def SharePublicSaid : Prop := sharePublicRow.holds Try.pinned (OpenSpec.ofChange sharePublicSpec)

/-- ITS FALSE NEIGHBOUR: 'it returns false'. Refute it at one input. -/
def sharePublicWrong : ChangeSpec := { name := "sharePublic", fn := fun _ => fun
  | [d1, d2, d3, d4, d5] => { results := [.lit (.bool false)], args := [d1, d2, d3, d4, d5] }
  | _ => none }
def SharePublicWrongFalsely : Prop := sharePublicRow.holds Try.pinned (OpenSpec.ofChange sharePublicWrong)

/-- 'greatseallaw05.ShareSpoilt': WHATEVER THE INPUT: true; the input reads as it did. -/
def shareSpoiltSpec : ChangeSpec := { name := "shareSpoilt", fn := fun _ => fun
  | [d1, d2, d3, d4, d5, d6] => { results := [.lit (.bool true)], args := [d1, d2, d3, d4, d5, d6] }
  | _ => none }
def shareSpoiltRow : OpenClaim := { program := "ytaibpldolbemfaa", sum := "fd2cb5833ed11e88691e032bd652b5e7d63b104544880dff3b993f4bd730c7e2", func := "greatseal/greatseallaw05.ShareSpoilt", spec := "shareSpoilt", inPlace := ["math/bits.Add64"], unfollowed := true, recurses := true, named := ["math/bits.divideError", "math/bits.overflowError"], apart := false }
def ShareSpoiltSaid : Prop := shareSpoiltRow.holds Try.pinned (OpenSpec.ofChange shareSpoiltSpec)

/-- ITS FALSE NEIGHBOUR: 'it returns false'. Refute it at one input. -/
def shareSpoiltWrong : ChangeSpec := { name := "shareSpoilt", fn := fun _ => fun
  | [d1, d2, d3, d4, d5, d6] => { results := [.lit (.bool false)], args := [d1, d2, d3, d4, d5, d6] }
  | _ => none }
def ShareSpoiltWrongFalsely : Prop := shareSpoiltRow.holds Try.pinned (OpenSpec.ofChange shareSpoiltWrong)

/-- 'greatseallaw05.ShareOnes': WHATEVER THE INPUT: true; the input reads as it did. -/
def shareOnesSpec : ChangeSpec := { name := "shareOnes", fn := fun _ => fun
  | [d1, d2] => { results := [.lit (.bool true)], args := [d1, d2] }
  | _ => none }
def shareOnesRow : OpenClaim := { program := "ytaibpldolbemfaa", sum := "fd2cb5833ed11e88691e032bd652b5e7d63b104544880dff3b993f4bd730c7e2", func := "greatseal/greatseallaw05.ShareOnes", spec := "shareOnes", inPlace := ["math/bits.Add64"], unfollowed := true, recurses := true, named := ["math/bits.divideError", "math/bits.overflowError"], apart := false }
def ShareOnesSaid : Prop := shareOnesRow.holds Try.pinned (OpenSpec.ofChange shareOnesSpec)

/-- ITS FALSE NEIGHBOUR: 'it returns false'. Refute it at one input. -/
def shareOnesWrong : ChangeSpec := { name := "shareOnes", fn := fun _ => fun
  | [d1, d2] => { results := [.lit (.bool false)], args := [d1, d2] }
  | _ => none }
def ShareOnesWrongFalsely : Prop := shareOnesRow.holds Try.pinned (OpenSpec.ofChange shareOnesWrong)

/- THE SECOND FORM. 'bulk': how many values and letters a reading holds, each counted each time it is reached (what is shared counts as often as it is met; a slice's spare places count too). A statement '..UptoSaid' is the law's where the arguments, and the package variables that the reading takes, are together of bulk at most 1048576: NARROWER than '..Said'. Prove '..Said' where nothing that the law and all that it calls make is longer than what came in: it says more and counts as full. Else prove '..UptoSaid'. A law counts once. -/
mutual
def uptoBulk {H : Type} : DataW H → Nat
  | .lit (.string bytes) => bytes.length + 1
  | .lit _ => 1
  | .nil => 1
  | .ptr d => uptoBulk d + 1
  | .slice elems spare => uptoBulkAll elems + uptoBulkAll spare + 1
  | .agg parts => uptoBulkAll parts + 1
  | .iface _ d => uptoBulk d + 1
  | .map entries => uptoBulkEntries entries + 1
  | .held _ => 1
def uptoBulkAll {H : Type} : List (DataW H) → Nat
  | [] => 0
  | d :: r => uptoBulk d + uptoBulkAll r
def uptoBulkEntries {H : Type} : List (Lit × DataW H) → Nat
  | [] => 0
  | x :: r => uptoBulkEntry x + uptoBulkEntries r
def uptoBulkEntry {H : Type} : Lit × DataW H → Nat
  | (.string bytes, d) => bytes.length + uptoBulk d + 1
  | (_, d) => uptoBulk d + 1
 end
def uptoSmall : (H : Type) → List (DataW H) → Bool := fun _ ds => decide (uptoBulkAll ds ≤ 1048576)
def OpenSpec.upto (s : _root_.Go.ChangeSpec) : _root_.Go.OpenSpec := { _root_.Go.OpenSpec.ofChange s with cond := some uptoSmall }

/-- 'greatseallaw05.ShareSplits', WHERE WHAT IT READS IS OF BULK AT MOST 1048576: true; the input reads as it did. -/
def shareSplitsUptoRow : OpenClaim := { program := "ytaibpldolbemfaa", sum := "fd2cb5833ed11e88691e032bd652b5e7d63b104544880dff3b993f4bd730c7e2", func := "greatseal/greatseallaw05.ShareSplits", spec := "shareSplits", inPlace := ["math/bits.Add64"], unfollowed := true, recurses := true, named := ["math/bits.divideError", "math/bits.overflowError"], apart := false, narrowed := true }
def ShareSplitsUptoSaid : Prop := shareSplitsUptoRow.holds Try.pinned (OpenSpec.upto shareSplitsSpec)

/-- 'greatseallaw05.ShareJoins', WHERE WHAT IT READS IS OF BULK AT MOST 1048576: true; the input reads as it did. -/
def shareJoinsUptoRow : OpenClaim := { program := "ytaibpldolbemfaa", sum := "fd2cb5833ed11e88691e032bd652b5e7d63b104544880dff3b993f4bd730c7e2", func := "greatseal/greatseallaw05.ShareJoins", spec := "shareJoins", inPlace := ["math/bits.Add64"], unfollowed := true, recurses := true, named := ["math/bits.divideError", "math/bits.overflowError"], apart := false, narrowed := true }
def ShareJoinsUptoSaid : Prop := shareJoinsUptoRow.holds Try.pinned (OpenSpec.upto shareJoinsSpec)

/-- 'greatseallaw05.ShareChecks', WHERE WHAT IT READS IS OF BULK AT MOST 1048576: true; the input reads as it did. -/
def shareChecksUptoRow : OpenClaim := { program := "ytaibpldolbemfaa", sum := "fd2cb5833ed11e88691e032bd652b5e7d63b104544880dff3b993f4bd730c7e2", func := "greatseal/greatseallaw05.ShareChecks", spec := "shareChecks", inPlace := ["math/bits.Add64"], unfollowed := true, recurses := true, named := ["math/bits.divideError", "math/bits.overflowError"], apart := false, narrowed := true }
def ShareChecksUptoSaid : Prop := shareChecksUptoRow.holds Try.pinned (OpenSpec.upto shareChecksSpec)

/-- 'greatseallaw05.ShareBack', WHERE WHAT IT READS IS OF BULK AT MOST 1048576: true; the input reads as it did. -/
def shareBackUptoRow : OpenClaim := { program := "ytaibpldolbemfaa", sum := "fd2cb5833ed11e88691e032bd652b5e7d63b104544880dff3b993f4bd730c7e2", func := "greatseal/greatseallaw05.ShareBack", spec := "shareBack", inPlace := ["math/bits.Add64"], unfollowed := true, recurses := true, named := ["math/bits.divideError", "math/bits.overflowError"], apart := false, narrowed := true }
def ShareBackUptoSaid : Prop := shareBackUptoRow.holds Try.pinned (OpenSpec.upto shareBackSpec)

/-- 'greatseallaw05.ShareHides', WHERE WHAT IT READS IS OF BULK AT MOST 1048576: true; the input reads as it did. -/
def shareHidesUptoRow : OpenClaim := { program := "ytaibpldolbemfaa", sum := "fd2cb5833ed11e88691e032bd652b5e7d63b104544880dff3b993f4bd730c7e2", func := "greatseal/greatseallaw05.ShareHides", spec := "shareHides", inPlace := ["math/bits.Add64"], unfollowed := true, recurses := true, named := ["math/bits.divideError", "math/bits.overflowError"], apart := false, narrowed := true }
def ShareHidesUptoSaid : Prop := shareHidesUptoRow.holds Try.pinned (OpenSpec.upto shareHidesSpec)

/-- 'greatseallaw05.ShareSums', WHERE WHAT IT READS IS OF BULK AT MOST 1048576: true; the input reads as it did. -/
def shareSumsUptoRow : OpenClaim := { program := "ytaibpldolbemfaa", sum := "fd2cb5833ed11e88691e032bd652b5e7d63b104544880dff3b993f4bd730c7e2", func := "greatseal/greatseallaw05.ShareSums", spec := "shareSums", inPlace := ["math/bits.Add64"], unfollowed := true, recurses := true, named := ["math/bits.divideError", "math/bits.overflowError"], apart := false, narrowed := true }
def ShareSumsUptoSaid : Prop := shareSumsUptoRow.holds Try.pinned (OpenSpec.upto shareSumsSpec)

/-- 'greatseallaw05.SharePublic', WHERE WHAT IT READS IS OF BULK AT MOST 1048576: true; the input reads as it did. -/
def sharePublicUptoRow : OpenClaim := { program := "ytaibpldolbemfaa", sum := "fd2cb5833ed11e88691e032bd652b5e7d63b104544880dff3b993f4bd730c7e2", func := "greatseal/greatseallaw05.SharePublic", spec := "sharePublic", inPlace := ["math/bits.Add64"], unfollowed := true, recurses := true, named := ["math/bits.divideError", "math/bits.overflowError"], apart := false, narrowed := true }
def SharePublicUptoSaid : Prop := sharePublicUptoRow.holds Try.pinned (OpenSpec.upto sharePublicSpec)

/-- 'greatseallaw05.ShareSpoilt', WHERE WHAT IT READS IS OF BULK AT MOST 1048576: true; the input reads as it did. -/
def shareSpoiltUptoRow : OpenClaim := { program := "ytaibpldolbemfaa", sum := "fd2cb5833ed11e88691e032bd652b5e7d63b104544880dff3b993f4bd730c7e2", func := "greatseal/greatseallaw05.ShareSpoilt", spec := "shareSpoilt", inPlace := ["math/bits.Add64"], unfollowed := true, recurses := true, named := ["math/bits.divideError", "math/bits.overflowError"], apart := false, narrowed := true }
def ShareSpoiltUptoSaid : Prop := shareSpoiltUptoRow.holds Try.pinned (OpenSpec.upto shareSpoiltSpec)

/-- 'greatseallaw05.ShareOnes', WHERE WHAT IT READS IS OF BULK AT MOST 1048576: true; the input reads as it did. -/
def shareOnesUptoRow : OpenClaim := { program := "ytaibpldolbemfaa", sum := "fd2cb5833ed11e88691e032bd652b5e7d63b104544880dff3b993f4bd730c7e2", func := "greatseal/greatseallaw05.ShareOnes", spec := "shareOnes", inPlace := ["math/bits.Add64"], unfollowed := true, recurses := true, named := ["math/bits.divideError", "math/bits.overflowError"], apart := false, narrowed := true }
def ShareOnesUptoSaid : Prop := shareOnesUptoRow.holds Try.pinned (OpenSpec.upto shareOnesSpec)

end Rows
end Go.Proofs.Ytaibpldolbemfaa
