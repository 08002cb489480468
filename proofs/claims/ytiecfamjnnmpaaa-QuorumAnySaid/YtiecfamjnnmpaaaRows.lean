/-
  No cell of these rows narrows 'for every input' (looked for: loops, veiled, ifaces, maps, wideKeys, modest, calm, conditions, laid).
  DERIVED. THE GIVEN ROWS OF THIS SEAT. 5 by the template 'for every input the law returns true; each argument reads behind the call as it read before'; 0 by the template 'total and deterministic' (their statements: YtiecfamjnnmpaaaTotals.lean).
  GIVEN WITH THE SEED: the statements are not yours to turn. If you find one false, say at which input.
  Laid BY PROGRAM, IN A SANDBOX (cutbox-rows.mjs): the forced cells as the released guide's own fill.sh prints them over the translation 23c6dfb733e491ae… (all of the seat's roots in one cut). By AI agents, Wed Nov 11 2026. No macro, syntax, notation, axiom, sorry.
-/
import Derived.Test.YtiecfamjnnmpaaaChecked
import GoSem.Claim
import GoSem.ClaimJoined
import GoSem.ClaimMapViews
import Derived.JoinedTies
import Derived.KernelRfl
namespace Go.Proofs.Ytiecfamjnnmpaaa
/- THE CELL 'sum', in the pinned program and in every row, IS THE sha256 OF THE DUMP (.gsa) THAT YtiecfamjnnmpaaaProg.lean LOADS. Nothing in Lean hashes anything: it is a label: what it is worth is what the hold of that sum in a sandbox is worth. -/
noncomputable def Try.pinned : Pinned := { name := "ytiecfamjnnmpaaa", sum := "23c6dfb733e491ae865e9aa28134b145302a3f5267c8bcd292f99bdc8ee3a217", checked := Try.checked }
namespace Rows
def none {H : Type} : Left H := { results := [], args := [] }

/-- 'greatseallaw06.QuorumSigns': WHATEVER THE INPUT: true; the input reads as it did. -/
def quorumSignsSpec : ChangeSpec := { name := "quorumSigns", fn := fun _ => fun
  | [d1, d2, d3, d4] => { results := [.lit (.bool true)], args := [d1, d2, d3, d4] }
  | _ => none }
def quorumSignsRow : OpenClaim := { program := "ytiecfamjnnmpaaa", sum := "23c6dfb733e491ae865e9aa28134b145302a3f5267c8bcd292f99bdc8ee3a217", func := "greatseal/greatseallaw06.QuorumSigns", spec := "quorumSigns", inPlace := ["math/bits.Add64"], unfollowed := true, recurses := true, named := ["math/bits.divideError", "math/bits.overflowError"], apart := false }
def QuorumSignsSaid : Prop := quorumSignsRow.holds Try.pinned (OpenSpec.ofChange quorumSignsSpec)

/-- ITS FALSE NEIGHBOUR: 'it returns false'. Refute it at one input. -/
def quorumSignsWrong : ChangeSpec := { name := "quorumSigns", fn := fun _ => fun
  | [d1, d2, d3, d4] => { results := [.lit (.bool false)], args := [d1, d2, d3, d4] }
  | _ => none }
def QuorumSignsWrongFalsely : Prop := quorumSignsRow.holds Try.pinned (OpenSpec.ofChange quorumSignsWrong)

/-- 'greatseallaw06.QuorumAny': WHATEVER THE INPUT: true; the input reads as it did. -/
def quorumAnySpec : ChangeSpec := { name := "quorumAny", fn := fun _ => fun
  | [d1, d2, d3, d4, d5, d6] => { results := [.lit (.bool true)], args := [d1, d2, d3, d4, d5, d6] }
  | _ => none }
def quorumAnyRow : OpenClaim := { program := "ytiecfamjnnmpaaa", sum := "23c6dfb733e491ae865e9aa28134b145302a3f5267c8bcd292f99bdc8ee3a217", func := "greatseal/greatseallaw06.QuorumAny", spec := "quorumAny", inPlace := ["math/bits.Add64"], unfollowed := true, recurses := true, named := ["math/bits.divideError", "math/bits.overflowError"], apart := false }
def QuorumAnySaid : Prop := quorumAnyRow.holds Try.pinned (OpenSpec.ofChange quorumAnySpec)

/-- ITS FALSE NEIGHBOUR: 'it returns false'. Refute it at one input. -/
def quorumAnyWrong : ChangeSpec := { name := "quorumAny", fn := fun _ => fun
  | [d1, d2, d3, d4, d5, d6] => { results := [.lit (.bool false)], args := [d1, d2, d3, d4, d5, d6] }
  | _ => none }
def QuorumAnyWrongFalsely : Prop := quorumAnyRow.holds Try.pinned (OpenSpec.ofChange quorumAnyWrong)

/-- 'greatseallaw06.QuorumFinds': WHATEVER THE INPUT: true; the input reads as it did. -/
def quorumFindsSpec : ChangeSpec := { name := "quorumFinds", fn := fun _ => fun
  | [d1, d2, d3, d4, d5, d6, d7] => { results := [.lit (.bool true)], args := [d1, d2, d3, d4, d5, d6, d7] }
  | _ => none }
def quorumFindsRow : OpenClaim := { program := "ytiecfamjnnmpaaa", sum := "23c6dfb733e491ae865e9aa28134b145302a3f5267c8bcd292f99bdc8ee3a217", func := "greatseal/greatseallaw06.QuorumFinds", spec := "quorumFinds", inPlace := ["math/bits.Add64"], unfollowed := true, recurses := true, named := ["math/bits.divideError", "math/bits.overflowError"], apart := false }
def QuorumFindsSaid : Prop := quorumFindsRow.holds Try.pinned (OpenSpec.ofChange quorumFindsSpec)

/-- ITS FALSE NEIGHBOUR: 'it returns false'. Refute it at one input. -/
def quorumFindsWrong : ChangeSpec := { name := "quorumFinds", fn := fun _ => fun
  | [d1, d2, d3, d4, d5, d6, d7] => { results := [.lit (.bool false)], args := [d1, d2, d3, d4, d5, d6, d7] }
  | _ => none }
def QuorumFindsWrongFalsely : Prop := quorumFindsRow.holds Try.pinned (OpenSpec.ofChange quorumFindsWrong)

/-- 'greatseallaw06.QuorumHolds': WHATEVER THE INPUT: true; the input reads as it did. -/
def quorumHoldsSpec : ChangeSpec := { name := "quorumHolds", fn := fun _ => fun
  | [d1, d2, d3, d4, d5] => { results := [.lit (.bool true)], args := [d1, d2, d3, d4, d5] }
  | _ => none }
def quorumHoldsRow : OpenClaim := { program := "ytiecfamjnnmpaaa", sum := "23c6dfb733e491ae865e9aa28134b145302a3f5267c8bcd292f99bdc8ee3a217", func := "greatseal/greatseallaw06.QuorumHolds", spec := "quorumHolds", inPlace := ["math/bits.Add64"], unfollowed := true, recurses := true, named := ["math/bits.divideError", "math/bits.overflowError"], apart := false }
def QuorumHoldsSaid : Prop := quorumHoldsRow.holds Try.pinned (OpenSpec.ofChange quorumHoldsSpec)

/-- ITS FALSE NEIGHBOUR: 'it returns false'. Refute it at one input. -/
def quorumHoldsWrong : ChangeSpec := { name := "quorumHolds", fn := fun _ => fun
  | [d1, d2, d3, d4, d5] => { results := [.lit (.bool false)], args := [d1, d2, d3, d4, d5] }
  | _ => none }
def QuorumHoldsWrongFalsely : Prop := quorumHoldsRow.holds Try.pinned (OpenSpec.ofChange quorumHoldsWrong)

/-- 'greatseallaw06.QuorumJoins': WHATEVER THE INPUT: true; the input reads as it did. -/
def quorumJoinsSpec : ChangeSpec := { name := "quorumJoins", fn := fun _ => fun
  | [d1, d2, d3, d4] => { results := [.lit (.bool true)], args := [d1, d2, d3, d4] }
  | _ => none }
def quorumJoinsRow : OpenClaim := { program := "ytiecfamjnnmpaaa", sum := "23c6dfb733e491ae865e9aa28134b145302a3f5267c8bcd292f99bdc8ee3a217", func := "greatseal/greatseallaw06.QuorumJoins", spec := "quorumJoins", inPlace := ["math/bits.Add64"], unfollowed := true, recurses := true, named := ["math/bits.divideError", "math/bits.overflowError"], apart := false }
def QuorumJoinsSaid : Prop := quorumJoinsRow.holds Try.pinned (OpenSpec.ofChange quorumJoinsSpec)

/-- ITS FALSE NEIGHBOUR: 'it returns false'. Refute it at one input. -/
def quorumJoinsWrong : ChangeSpec := { name := "quorumJoins", fn := fun _ => fun
  | [d1, d2, d3, d4] => { results := [.lit (.bool false)], args := [d1, d2, d3, d4] }
  | _ => none }
def QuorumJoinsWrongFalsely : Prop := quorumJoinsRow.holds Try.pinned (OpenSpec.ofChange quorumJoinsWrong)

/- THE SECOND FORM. 'bulk': how many values and letters a reading holds, each counted each time it is reached (what is shared counts as often as it is met; a slice's spare places count too). A statement '..UptoSaid' is the law's where the arguments, and the package variables that the reading takes, are together of bulk at most 1048576: NARROWER than '..Said'. Prove '..Said' where nothing that the law and all that it calls make is longer than what came in: it says more and counts as full. Else prove '..UptoSaid'. A law counts once. -/
mutual
def uptoBulk {H : Type} : DataW H → Nat
  | .lit (.string bytes) => bytes.length + 1
  | .lit _ => 1
  | .nil => 1
  | .ptr d => uptoBulk d + 1
  | .slice elems spare => uptoBulkAll elems + uptoBulkAll spare + 1
  | .agg parts => uptoBulkAll parts + 1
  | .iface _ d => uptoBulk d + 1
  | .map entries => uptoBulkEntries entries + 1
  | .held _ => 1
def uptoBulkAll {H : Type} : List (DataW H) → Nat
  | [] => 0
  | d :: r => uptoBulk d + uptoBulkAll r
def uptoBulkEntries {H : Type} : List (Lit × DataW H) → Nat
  | [] => 0
  | x :: r => uptoBulkEntry x + uptoBulkEntries r
def uptoBulkEntry {H : Type} : Lit × DataW H → Nat
  | (.string bytes, d) => bytes.length + uptoBulk d + 1
  | (_, d) => uptoBulk d + 1
 end
def uptoSmall : (H : Type) → List (DataW H) → Bool := fun _ ds => decide (uptoBulkAll ds ≤ 1048576)
def OpenSpec.upto (s : _root_.Go.ChangeSpec) : _root_.Go.OpenSpec := { _root_.Go.OpenSpec.ofChange s with cond := some uptoSmall }

/-- 'greatseallaw06.QuorumSigns', WHERE WHAT IT READS IS OF BULK AT MOST 1048576: true; the input reads as it did. -/
def quorumSignsUptoRow : OpenClaim := { program := "ytiecfamjnnmpaaa", sum := "23c6dfb733e491ae865e9aa28134b145302a3f5267c8bcd292f99bdc8ee3a217", func := "greatseal/greatseallaw06.QuorumSigns", spec := "quorumSigns", inPlace := ["math/bits.Add64"], unfollowed := true, recurses := true, named := ["math/bits.divideError", "math/bits.overflowError"], apart := false, narrowed := true }
def QuorumSignsUptoSaid : Prop := quorumSignsUptoRow.holds Try.pinned (OpenSpec.upto quorumSignsSpec)

/-- 'greatseallaw06.QuorumAny', WHERE WHAT IT READS IS OF BULK AT MOST 1048576: true; the input reads as it did. -/
def quorumAnyUptoRow : OpenClaim := { program := "ytiecfamjnnmpaaa", sum := "23c6dfb733e491ae865e9aa28134b145302a3f5267c8bcd292f99bdc8ee3a217", func := "greatseal/greatseallaw06.QuorumAny", spec := "quorumAny", inPlace := ["math/bits.Add64"], unfollowed := true, recurses := true, named := ["math/bits.divideError", "math/bits.overflowError"], apart := false, narrowed := true }
def QuorumAnyUptoSaid : Prop := quorumAnyUptoRow.holds Try.pinned (OpenSpec.upto quorumAnySpec)

/-- 'greatseallaw06.QuorumFinds', WHERE WHAT IT READS IS OF BULK AT MOST 1048576: true; the input reads as it did. -/
def quorumFindsUptoRow : OpenClaim := { program := "ytiecfamjnnmpaaa", sum := "23c6dfb733e491ae865e9aa28134b145302a3f5267c8bcd292f99bdc8ee3a217", func := "greatseal/greatseallaw06.QuorumFinds", spec := "quorumFinds", inPlace := ["math/bits.Add64"], unfollowed := true, recurses := true, named := ["math/bits.divideError", "math/bits.overflowError"], apart := false, narrowed := true }
def QuorumFindsUptoSaid : Prop := quorumFindsUptoRow.holds Try.pinned (OpenSpec.upto quorumFindsSpec)

/-- 'greatseallaw06.QuorumHolds', WHERE WHAT IT READS IS OF BULK AT MOST 1048576: true; the input reads as it did. -/
def quorumHoldsUptoRow : OpenClaim := { program := "ytiecfamjnnmpaaa", sum := "23c6dfb733e491ae865e9aa28134b145302a3f5267c8bcd292f99bdc8ee3a217", func := "greatseal/greatseallaw06.QuorumHolds", spec := "quorumHolds", inPlace := ["math/bits.Add64"], unfollowed := true, recurses := true, named := ["math/bits.divideError", "math/bits.overflowError"], apart := false, narrowed := true }
def QuorumHoldsUptoSaid : Prop := quorumHoldsUptoRow.holds Try.pinned (OpenSpec.upto quorumHoldsSpec)

/-- 'greatseallaw06.QuorumJoins', WHERE WHAT IT READS IS OF BULK AT MOST 1048576: true; the input reads as it did. -/
def quorumJoinsUptoRow : OpenClaim := { program := "ytiecfamjnnmpaaa", sum := "23c6dfb733e491ae865e9aa28134b145302a3f5267c8bcd292f99bdc8ee3a217", func := "greatseal/greatseallaw06.QuorumJoins", spec := "quorumJoins", inPlace := ["math/bits.Add64"], unfollowed := true, recurses := true, named := ["math/bits.divideError", "math/bits.overflowError"], apart := false, narrowed := true }
def QuorumJoinsUptoSaid : Prop := quorumJoinsUptoRow.holds Try.pinned (OpenSpec.upto quorumJoinsSpec)

end Rows
end Go.Proofs.Ytiecfamjnnmpaaa
