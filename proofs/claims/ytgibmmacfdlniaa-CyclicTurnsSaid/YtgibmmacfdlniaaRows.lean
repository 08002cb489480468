/-
  No cell of these rows narrows 'for every input' (looked for: loops, veiled, ifaces, maps, wideKeys, modest, calm, conditions, laid).
  DERIVED. THE GIVEN ROWS OF THIS SEAT. 9 by the template 'for every input the law returns true; each argument reads behind the call as it read before'; 0 by the template 'total and deterministic' (their statements: YtgibmmacfdlniaaTotals.lean).
  GIVEN WITH THE SEED: the statements are not yours to turn. If you find one false, say at which input.
  Laid BY PROGRAM, IN A SANDBOX (cutbox-rows.mjs): the forced cells as the released guide's own fill.sh prints them over the translation f23a06db746f2146… (all of the seat's roots in one cut). By AI agents, Wed Nov 11 2026. No macro, syntax, notation, axiom, sorry.
-/
import Derived.Test.YtgibmmacfdlniaaChecked
import GoSem.Claim
import GoSem.ClaimJoined
import GoSem.ClaimMapViews
import Derived.JoinedTies
import Derived.KernelRfl
namespace Go.Proofs.Ytgibmmacfdlniaa
/- THE CELL 'sum', in the pinned program and in every row, IS THE sha256 OF THE DUMP (.gsa) THAT YtgibmmacfdlniaaProg.lean LOADS. Nothing in Lean hashes anything: it is a label: what it is worth is what the hold of that sum in a sandbox is worth. -/
noncomputable def Try.pinned : Pinned := { name := "ytgibmmacfdlniaa", sum := "f23a06db746f214608e10cb3f5daad732b37f7fb9a352640cb6449bb6ac8c4ff", checked := Try.checked }
namespace Rows
def none {H : Type} : Left H := { results := [], args := [] }

/-- 'greatseallaw03.CyclicTells': WHATEVER THE INPUT: true; the input reads as it did. -/
def cyclicTellsSpec : ChangeSpec := { name := "cyclicTells", fn := fun _ => fun
  | [d1, d2] => { results := [.lit (.bool true)], args := [d1, d2] }
  | _ => none }
def cyclicTellsRow : OpenClaim := { program := "ytgibmmacfdlniaa", sum := "f23a06db746f214608e10cb3f5daad732b37f7fb9a352640cb6449bb6ac8c4ff", func := "greatseal/greatseallaw03.CyclicTells", spec := "cyclicTells", inPlace := ["math/bits.Add64"], unfollowed := true, recurses := true, named := ["math/bits.divideError", "math/bits.overflowError"], apart := false }
def CyclicTellsSaid : Prop := cyclicTellsRow.holds Try.pinned (OpenSpec.ofChange cyclicTellsSpec)

/-- ITS FALSE NEIGHBOUR: 'it returns false'. Refute it at one input. -/
def cyclicTellsWrong : ChangeSpec := { name := "cyclicTells", fn := fun _ => fun
  | [d1, d2] => { results := [.lit (.bool false)], args := [d1, d2] }
  | _ => none }
def CyclicTellsWrongFalsely : Prop := cyclicTellsRow.holds Try.pinned (OpenSpec.ofChange cyclicTellsWrong)

/-- 'greatseallaw03.CyclicTurns': WHATEVER THE INPUT: true; the input reads as it did. -/
def cyclicTurnsSpec : ChangeSpec := { name := "cyclicTurns", fn := fun _ => fun
  | [d1, d2] => { results := [.lit (.bool true)], args := [d1, d2] }
  | _ => none }
def cyclicTurnsRow : OpenClaim := { program := "ytgibmmacfdlniaa", sum := "f23a06db746f214608e10cb3f5daad732b37f7fb9a352640cb6449bb6ac8c4ff", func := "greatseal/greatseallaw03.CyclicTurns", spec := "cyclicTurns", inPlace := ["math/bits.Add64"], unfollowed := true, recurses := true, named := ["math/bits.divideError", "math/bits.overflowError"], apart := false }
def CyclicTurnsSaid : Prop := cyclicTurnsRow.holds Try.pinned (OpenSpec.ofChange cyclicTurnsSpec)

/-- ITS FALSE NEIGHBOUR: 'it returns false'. Refute it at one input. -/
def cyclicTurnsWrong : ChangeSpec := { name := "cyclicTurns", fn := fun _ => fun
  | [d1, d2] => { results := [.lit (.bool false)], args := [d1, d2] }
  | _ => none }
def CyclicTurnsWrongFalsely : Prop := cyclicTurnsRow.holds Try.pinned (OpenSpec.ofChange cyclicTurnsWrong)

/-- 'greatseallaw03.CyclicCounts': WHATEVER THE INPUT: true; the input reads as it did. -/
def cyclicCountsSpec : ChangeSpec := { name := "cyclicCounts", fn := fun _ => fun
  | [d1, d2] => { results := [.lit (.bool true)], args := [d1, d2] }
  | _ => none }
def cyclicCountsRow : OpenClaim := { program := "ytgibmmacfdlniaa", sum := "f23a06db746f214608e10cb3f5daad732b37f7fb9a352640cb6449bb6ac8c4ff", func := "greatseal/greatseallaw03.CyclicCounts", spec := "cyclicCounts", inPlace := ["math/bits.Add64"], unfollowed := true, recurses := true, named := ["math/bits.divideError", "math/bits.overflowError"], apart := false }
def CyclicCountsSaid : Prop := cyclicCountsRow.holds Try.pinned (OpenSpec.ofChange cyclicCountsSpec)

/-- ITS FALSE NEIGHBOUR: 'it returns false'. Refute it at one input. -/
def cyclicCountsWrong : ChangeSpec := { name := "cyclicCounts", fn := fun _ => fun
  | [d1, d2] => { results := [.lit (.bool false)], args := [d1, d2] }
  | _ => none }
def CyclicCountsWrongFalsely : Prop := cyclicCountsRow.holds Try.pinned (OpenSpec.ofChange cyclicCountsWrong)

/-- 'greatseallaw03.CyclicGroup': WHATEVER THE INPUT: true; the input reads as it did. -/
def cyclicGroupSpec : ChangeSpec := { name := "cyclicGroup", fn := fun _ => fun
  | [d1, d2, d3] => { results := [.lit (.bool true)], args := [d1, d2, d3] }
  | _ => none }
def cyclicGroupRow : OpenClaim := { program := "ytgibmmacfdlniaa", sum := "f23a06db746f214608e10cb3f5daad732b37f7fb9a352640cb6449bb6ac8c4ff", func := "greatseal/greatseallaw03.CyclicGroup", spec := "cyclicGroup", inPlace := ["math/bits.Add64"], unfollowed := true, recurses := true, named := ["math/bits.divideError", "math/bits.overflowError"], apart := false }
def CyclicGroupSaid : Prop := cyclicGroupRow.holds Try.pinned (OpenSpec.ofChange cyclicGroupSpec)

/-- ITS FALSE NEIGHBOUR: 'it returns false'. Refute it at one input. -/
def cyclicGroupWrong : ChangeSpec := { name := "cyclicGroup", fn := fun _ => fun
  | [d1, d2, d3] => { results := [.lit (.bool false)], args := [d1, d2, d3] }
  | _ => none }
def CyclicGroupWrongFalsely : Prop := cyclicGroupRow.holds Try.pinned (OpenSpec.ofChange cyclicGroupWrong)

/-- 'greatseallaw03.CyclicOrder': WHATEVER THE INPUT: true; the input reads as it did. -/
def cyclicOrderSpec : ChangeSpec := { name := "cyclicOrder", fn := fun _ => fun
  | [d1, d2] => { results := [.lit (.bool true)], args := [d1, d2] }
  | _ => none }
def cyclicOrderRow : OpenClaim := { program := "ytgibmmacfdlniaa", sum := "f23a06db746f214608e10cb3f5daad732b37f7fb9a352640cb6449bb6ac8c4ff", func := "greatseal/greatseallaw03.CyclicOrder", spec := "cyclicOrder", inPlace := ["math/bits.Add64"], unfollowed := true, recurses := true, named := ["math/bits.divideError", "math/bits.overflowError"], apart := false }
def CyclicOrderSaid : Prop := cyclicOrderRow.holds Try.pinned (OpenSpec.ofChange cyclicOrderSpec)

/-- ITS FALSE NEIGHBOUR: 'it returns false'. Refute it at one input. -/
def cyclicOrderWrong : ChangeSpec := { name := "cyclicOrder", fn := fun _ => fun
  | [d1, d2] => { results := [.lit (.bool false)], args := [d1, d2] }
  | _ => none }
def CyclicOrderWrongFalsely : Prop := cyclicOrderRow.holds Try.pinned (OpenSpec.ofChange cyclicOrderWrong)

/-- 'greatseallaw03.CyclicSquares': WHATEVER THE INPUT: true; the input reads as it did. -/
def cyclicSquaresSpec : ChangeSpec := { name := "cyclicSquares", fn := fun _ => fun
  | [d] => { results := [.lit (.bool true)], args := [d] }
  | _ => none }
def cyclicSquaresRow : OpenClaim := { program := "ytgibmmacfdlniaa", sum := "f23a06db746f214608e10cb3f5daad732b37f7fb9a352640cb6449bb6ac8c4ff", func := "greatseal/greatseallaw03.CyclicSquares", spec := "cyclicSquares", inPlace := ["math/bits.Add64"], unfollowed := true, recurses := true, named := ["math/bits.divideError", "math/bits.overflowError"], apart := false }
def CyclicSquaresSaid : Prop := cyclicSquaresRow.holds Try.pinned (OpenSpec.ofChange cyclicSquaresSpec)

/-- ITS FALSE NEIGHBOUR: 'it returns false'. Refute it at one input. -/
def cyclicSquaresWrong : ChangeSpec := { name := "cyclicSquares", fn := fun _ => fun
  | [d] => { results := [.lit (.bool false)], args := [d] }
  | _ => none }
def CyclicSquaresWrongFalsely : Prop := cyclicSquaresRow.holds Try.pinned (OpenSpec.ofChange cyclicSquaresWrong)

/-- 'greatseallaw03.CyclicPowers': WHATEVER THE INPUT: true; the input reads as it did. -/
def cyclicPowersSpec : ChangeSpec := { name := "cyclicPowers", fn := fun _ => fun
  | [d1, d2, d3] => { results := [.lit (.bool true)], args := [d1, d2, d3] }
  | _ => none }
def cyclicPowersRow : OpenClaim := { program := "ytgibmmacfdlniaa", sum := "f23a06db746f214608e10cb3f5daad732b37f7fb9a352640cb6449bb6ac8c4ff", func := "greatseal/greatseallaw03.CyclicPowers", spec := "cyclicPowers", inPlace := ["math/bits.Add64"], unfollowed := true, recurses := true, named := ["math/bits.divideError", "math/bits.overflowError"], apart := false }
def CyclicPowersSaid : Prop := cyclicPowersRow.holds Try.pinned (OpenSpec.ofChange cyclicPowersSpec)

/-- ITS FALSE NEIGHBOUR: 'it returns false'. Refute it at one input. -/
def cyclicPowersWrong : ChangeSpec := { name := "cyclicPowers", fn := fun _ => fun
  | [d1, d2, d3] => { results := [.lit (.bool false)], args := [d1, d2, d3] }
  | _ => none }
def CyclicPowersWrongFalsely : Prop := cyclicPowersRow.holds Try.pinned (OpenSpec.ofChange cyclicPowersWrong)

/-- 'greatseallaw03.CyclicRing': WHATEVER THE INPUT: true; the input reads as it did. -/
def cyclicRingSpec : ChangeSpec := { name := "cyclicRing", fn := fun _ => fun
  | [d1, d2, d3] => { results := [.lit (.bool true)], args := [d1, d2, d3] }
  | _ => none }
def cyclicRingRow : OpenClaim := { program := "ytgibmmacfdlniaa", sum := "f23a06db746f214608e10cb3f5daad732b37f7fb9a352640cb6449bb6ac8c4ff", func := "greatseal/greatseallaw03.CyclicRing", spec := "cyclicRing", inPlace := ["math/bits.Add64"], unfollowed := true, recurses := true, named := ["math/bits.divideError", "math/bits.overflowError"], apart := false }
def CyclicRingSaid : Prop := cyclicRingRow.holds Try.pinned (OpenSpec.ofChange cyclicRingSpec)

/-- ITS FALSE NEIGHBOUR: 'it returns false'. Refute it at one input. -/
def cyclicRingWrong : ChangeSpec := { name := "cyclicRing", fn := fun _ => fun
  | [d1, d2, d3] => { results := [.lit (.bool false)], args := [d1, d2, d3] }
  | _ => none }
def CyclicRingWrongFalsely : Prop := cyclicRingRow.holds Try.pinned (OpenSpec.ofChange cyclicRingWrong)

/-- 'greatseallaw03.CyclicField': WHATEVER THE INPUT: true; the input reads as it did. -/
def cyclicFieldSpec : ChangeSpec := { name := "cyclicField", fn := fun _ => fun
  | [d1, d2] => { results := [.lit (.bool true)], args := [d1, d2] }
  | _ => none }
def cyclicFieldRow : OpenClaim := { program := "ytgibmmacfdlniaa", sum := "f23a06db746f214608e10cb3f5daad732b37f7fb9a352640cb6449bb6ac8c4ff", func := "greatseal/greatseallaw03.CyclicField", spec := "cyclicField", inPlace := ["math/bits.Add64"], unfollowed := true, recurses := true, named := ["math/bits.divideError", "math/bits.overflowError"], apart := false }
def CyclicFieldSaid : Prop := cyclicFieldRow.holds Try.pinned (OpenSpec.ofChange cyclicFieldSpec)

/-- ITS FALSE NEIGHBOUR: 'it returns false'. Refute it at one input. -/
def cyclicFieldWrong : ChangeSpec := { name := "cyclicField", fn := fun _ => fun
  | [d1, d2] => { results := [.lit (.bool false)], args := [d1, d2] }
  | _ => none }
def CyclicFieldWrongFalsely : Prop := cyclicFieldRow.holds Try.pinned (OpenSpec.ofChange cyclicFieldWrong)

/- THE SECOND FORM. 'bulk': how many values and letters a reading holds, each counted each time it is reached (what is shared counts as often as it is met; a slice's spare places count too). A statement '..UptoSaid' is the law's where the arguments, and the package variables that the reading takes, are together of bulk at most 1048576: NARROWER than '..Said'. Prove '..Said' where nothing that the law and all that it calls make is longer than what came in: it says more and counts as full. Else prove '..UptoSaid'. A law counts once. -/
mutual
def uptoBulk {H : Type} : DataW H → Nat
  | .lit (.string bytes) => bytes.length + 1
  | .lit _ => 1
  | .nil => 1
  | .ptr d => uptoBulk d + 1
  | .slice elems spare => uptoBulkAll elems + uptoBulkAll spare + 1
  | .agg parts => uptoBulkAll parts + 1
  | .iface _ d => uptoBulk d + 1
  | .map entries => uptoBulkEntries entries + 1
  | .held _ => 1
def uptoBulkAll {H : Type} : List (DataW H) → Nat
  | [] => 0
  | d :: r => uptoBulk d + uptoBulkAll r
def uptoBulkEntries {H : Type} : List (Lit × DataW H) → Nat
  | [] => 0
  | x :: r => uptoBulkEntry x + uptoBulkEntries r
def uptoBulkEntry {H : Type} : Lit × DataW H → Nat
  | (.string bytes, d) => bytes.length + uptoBulk d + 1
  | (_, d) => uptoBulk d + 1
 end
def uptoSmall : (H : Type) → List (DataW H) → Bool := fun _ ds => decide (uptoBulkAll ds ≤ 1048576)
def OpenSpec.upto (s : _root_.Go.ChangeSpec) : _root_.Go.OpenSpec := { _root_.Go.OpenSpec.ofChange s with cond := some uptoSmall }

/-- 'greatseallaw03.CyclicTells', WHERE WHAT IT READS IS OF BULK AT MOST 1048576: true; the input reads as it did. -/
def cyclicTellsUptoRow : OpenClaim := { program := "ytgibmmacfdlniaa", sum := "f23a06db746f214608e10cb3f5daad732b37f7fb9a352640cb6449bb6ac8c4ff", func := "greatseal/greatseallaw03.CyclicTells", spec := "cyclicTells", inPlace := ["math/bits.Add64"], unfollowed := true, recurses := true, named := ["math/bits.divideError", "math/bits.overflowError"], apart := false, narrowed := true }
def CyclicTellsUptoSaid : Prop := cyclicTellsUptoRow.holds Try.pinned (OpenSpec.upto cyclicTellsSpec)

/-- 'greatseallaw03.CyclicTurns', WHERE WHAT IT READS IS OF BULK AT MOST 1048576: true; the input reads as it did. -/
def cyclicTurnsUptoRow : OpenClaim := { program := "ytgibmmacfdlniaa", sum := "f23a06db746f214608e10cb3f5daad732b37f7fb9a352640cb6449bb6ac8c4ff", func := "greatseal/greatseallaw03.CyclicTurns", spec := "cyclicTurns", inPlace := ["math/bits.Add64"], unfollowed := true, recurses := true, named := ["math/bits.divideError", "math/bits.overflowError"], apart := false, narrowed := true }
def CyclicTurnsUptoSaid : Prop := cyclicTurnsUptoRow.holds Try.pinned (OpenSpec.upto cyclicTurnsSpec)

/-- 'greatseallaw03.CyclicCounts', WHERE WHAT IT READS IS OF BULK AT MOST 1048576: true; the input reads as it did. -/
def cyclicCountsUptoRow : OpenClaim := { program := "ytgibmmacfdlniaa", sum := "f23a06db746f214608e10cb3f5daad732b37f7fb9a352640cb6449bb6ac8c4ff", func := "greatseal/greatseallaw03.CyclicCounts", spec := "cyclicCounts", inPlace := ["math/bits.Add64"], unfollowed := true, recurses := true, named := ["math/bits.divideError", "math/bits.overflowError"], apart := false, narrowed := true }
def CyclicCountsUptoSaid : Prop := cyclicCountsUptoRow.holds Try.pinned (OpenSpec.upto cyclicCountsSpec)

/-- 'greatseallaw03.CyclicGroup', WHERE WHAT IT READS IS OF BULK AT MOST 1048576: true; the input reads as it did. -/
def cyclicGroupUptoRow : OpenClaim := { program := "ytgibmmacfdlniaa", sum := "f23a06db746f214608e10cb3f5daad732b37f7fb9a352640cb6449bb6ac8c4ff", func := "greatseal/greatseallaw03.CyclicGroup", spec := "cyclicGroup", inPlace := ["math/bits.Add64"], unfollowed := true, recurses := true, named := ["math/bits.divideError", "math/bits.overflowError"], apart := false, narrowed := true }
def CyclicGroupUptoSaid : Prop := cyclicGroupUptoRow.holds Try.pinned (OpenSpec.upto cyclicGroupSpec)

/-- 'greatseallaw03.CyclicOrder', WHERE WHAT IT READS IS OF BULK AT MOST 1048576: true; the input reads as it did. -/
def cyclicOrderUptoRow : OpenClaim := { program := "ytgibmmacfdlniaa", sum := "f23a06db746f214608e10cb3f5daad732b37f7fb9a352640cb6449bb6ac8c4ff", func := "greatseal/greatseallaw03.CyclicOrder", spec := "cyclicOrder", inPlace := ["math/bits.Add64"], unfollowed := true, recurses := true, named := ["math/bits.divideError", "math/bits.overflowError"], apart := false, narrowed := true }
def CyclicOrderUptoSaid : Prop := cyclicOrderUptoRow.holds Try.pinned (OpenSpec.upto cyclicOrderSpec)

/-- 'greatseallaw03.CyclicSquares', WHERE WHAT IT READS IS OF BULK AT MOST 1048576: true; the input reads as it did. -/
def cyclicSquaresUptoRow : OpenClaim := { program := "ytgibmmacfdlniaa", sum := "f23a06db746f214608e10cb3f5daad732b37f7fb9a352640cb6449bb6ac8c4ff", func := "greatseal/greatseallaw03.CyclicSquares", spec := "cyclicSquares", inPlace := ["math/bits.Add64"], unfollowed := true, recurses := true, named := ["math/bits.divideError", "math/bits.overflowError"], apart := false, narrowed := true }
def CyclicSquaresUptoSaid : Prop := cyclicSquaresUptoRow.holds Try.pinned (OpenSpec.upto cyclicSquaresSpec)

/-- 'greatseallaw03.CyclicPowers', WHERE WHAT IT READS IS OF BULK AT MOST 1048576: true; the input reads as it did. -/
def cyclicPowersUptoRow : OpenClaim := { program := "ytgibmmacfdlniaa", sum := "f23a06db746f214608e10cb3f5daad732b37f7fb9a352640cb6449bb6ac8c4ff", func := "greatseal/greatseallaw03.CyclicPowers", spec := "cyclicPowers", inPlace := ["math/bits.Add64"], unfollowed := true, recurses := true, named := ["math/bits.divideError", "math/bits.overflowError"], apart := false, narrowed := true }
def CyclicPowersUptoSaid : Prop := cyclicPowersUptoRow.holds Try.pinned (OpenSpec.upto cyclicPowersSpec)

/-- 'greatseallaw03.CyclicRing', WHERE WHAT IT READS IS OF BULK AT MOST 1048576: true; the input reads as it did. -/
def cyclicRingUptoRow : OpenClaim := { program := "ytgibmmacfdlniaa", sum := "f23a06db746f214608e10cb3f5daad732b37f7fb9a352640cb6449bb6ac8c4ff", func := "greatseal/greatseallaw03.CyclicRing", spec := "cyclicRing", inPlace := ["math/bits.Add64"], unfollowed := true, recurses := true, named := ["math/bits.divideError", "math/bits.overflowError"], apart := false, narrowed := true }
def CyclicRingUptoSaid : Prop := cyclicRingUptoRow.holds Try.pinned (OpenSpec.upto cyclicRingSpec)

/-- 'greatseallaw03.CyclicField', WHERE WHAT IT READS IS OF BULK AT MOST 1048576: true; the input reads as it did. -/
def cyclicFieldUptoRow : OpenClaim := { program := "ytgibmmacfdlniaa", sum := "f23a06db746f214608e10cb3f5daad732b37f7fb9a352640cb6449bb6ac8c4ff", func := "greatseal/greatseallaw03.CyclicField", spec := "cyclicField", inPlace := ["math/bits.Add64"], unfollowed := true, recurses := true, named := ["math/bits.divideError", "math/bits.overflowError"], apart := false, narrowed := true }
def CyclicFieldUptoSaid : Prop := cyclicFieldUptoRow.holds Try.pinned (OpenSpec.upto cyclicFieldSpec)

end Rows
end Go.Proofs.Ytgibmmacfdlniaa
