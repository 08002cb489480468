/-
  No cell of these rows narrows 'for every input' (looked for: loops, veiled, ifaces, maps, wideKeys, modest, calm, conditions, laid).
  DERIVED. THE GIVEN ROWS OF THIS SEAT. 4 by the template 'for every input the law returns true; each argument reads behind the call as it read before'; 0 by the template 'total and deterministic' (their statements: YtiecfamjnnmpaaaGreatTotals.lean).
  GIVEN WITH THE SEED: the statements are not yours to turn. If you find one false, say at which input.
  Laid BY PROGRAM, IN A SANDBOX (cutbox-rows.mjs): the forced cells as the released guide's own fill.sh prints them over the translation 6484ba1fd5ca1b75… (all of the seat's roots in one cut). By AI agents, Wed Nov 11 2026. No macro, syntax, notation, axiom, sorry.
-/
import Derived.Test.YtiecfamjnnmpaaaGreatChecked
import GoSem.Claim
import GoSem.ClaimJoined
import GoSem.ClaimMapViews
import Derived.JoinedTies
import Derived.KernelRfl
namespace Go.Proofs.YtiecfamjnnmpaaaGreat
/- THE CELL 'sum', in the pinned program and in every row, IS THE sha256 OF THE DUMP (.gsa) THAT YtiecfamjnnmpaaaGreatProg.lean LOADS. Nothing in Lean hashes anything: it is a label: what it is worth is what the hold of that sum in a sandbox is worth. -/
noncomputable def Tryz.pinned : Pinned := { name := "ytiecfamjnnmpaaagreat", sum := "6484ba1fd5ca1b752c1952ba13a1f67dc08c1b953fb493f13c466c32e04e7407", checked := Tryz.checked }
namespace Rows
def none {H : Type} : Left H := { results := [], args := [] }

/-- 'greatseallaw06.QuorumDeals': WHATEVER THE INPUT: true; the input reads as it did. -/
def quorumDealsSpec : ChangeSpec := { name := "quorumDeals", fn := fun _ => fun
  | [d1, d2, d3, d4] => { results := [.lit (.bool true)], args := [d1, d2, d3, d4] }
  | _ => none }
def quorumDealsRow : OpenClaim := { program := "ytiecfamjnnmpaaagreat", sum := "6484ba1fd5ca1b752c1952ba13a1f67dc08c1b953fb493f13c466c32e04e7407", func := "greatseal/greatseallaw06.QuorumDeals", spec := "quorumDeals", inPlace := ["math/bits.Add64"], unfollowed := true, recurses := true, named := ["math/bits.divideError", "math/bits.overflowError"], apart := false }
def QuorumDealsSaid : Prop := quorumDealsRow.holds Tryz.pinned (OpenSpec.ofChange quorumDealsSpec)

/-- ITS FALSE NEIGHBOUR: 'it returns false'. Refute it at one input. -/
def quorumDealsWrong : ChangeSpec := { name := "quorumDeals", fn := fun _ => fun
  | [d1, d2, d3, d4] => { results := [.lit (.bool false)], args := [d1, d2, d3, d4] }
  | _ => none }
def QuorumDealsWrongFalsely : Prop := quorumDealsRow.holds Tryz.pinned (OpenSpec.ofChange quorumDealsWrong)

/-- 'greatseallaw06.QuorumCommits': WHATEVER THE INPUT: true; the input reads as it did. -/
def quorumCommitsSpec : ChangeSpec := { name := "quorumCommits", fn := fun _ => fun
  | [d1, d2, d3] => { results := [.lit (.bool true)], args := [d1, d2, d3] }
  | _ => none }
def quorumCommitsRow : OpenClaim := { program := "ytiecfamjnnmpaaagreat", sum := "6484ba1fd5ca1b752c1952ba13a1f67dc08c1b953fb493f13c466c32e04e7407", func := "greatseal/greatseallaw06.QuorumCommits", spec := "quorumCommits", inPlace := ["math/bits.Add64"], unfollowed := true, recurses := true, named := ["math/bits.divideError", "math/bits.overflowError"], apart := false }
def QuorumCommitsSaid : Prop := quorumCommitsRow.holds Tryz.pinned (OpenSpec.ofChange quorumCommitsSpec)

/-- ITS FALSE NEIGHBOUR: 'it returns false'. Refute it at one input. -/
def quorumCommitsWrong : ChangeSpec := { name := "quorumCommits", fn := fun _ => fun
  | [d1, d2, d3] => { results := [.lit (.bool false)], args := [d1, d2, d3] }
  | _ => none }
def QuorumCommitsWrongFalsely : Prop := quorumCommitsRow.holds Tryz.pinned (OpenSpec.ofChange quorumCommitsWrong)

/-- 'greatseallaw06.QuorumCombines': WHATEVER THE INPUT: true; the input reads as it did. -/
def quorumCombinesSpec : ChangeSpec := { name := "quorumCombines", fn := fun _ => fun
  | [d1, d2, d3, d4] => { results := [.lit (.bool true)], args := [d1, d2, d3, d4] }
  | _ => none }
def quorumCombinesRow : OpenClaim := { program := "ytiecfamjnnmpaaagreat", sum := "6484ba1fd5ca1b752c1952ba13a1f67dc08c1b953fb493f13c466c32e04e7407", func := "greatseal/greatseallaw06.QuorumCombines", spec := "quorumCombines", inPlace := ["math/bits.Add64"], unfollowed := true, recurses := true, named := ["math/bits.divideError", "math/bits.overflowError"], apart := false }
def QuorumCombinesSaid : Prop := quorumCombinesRow.holds Tryz.pinned (OpenSpec.ofChange quorumCombinesSpec)

/-- ITS FALSE NEIGHBOUR: 'it returns false'. Refute it at one input. -/
def quorumCombinesWrong : ChangeSpec := { name := "quorumCombines", fn := fun _ => fun
  | [d1, d2, d3, d4] => { results := [.lit (.bool false)], args := [d1, d2, d3, d4] }
  | _ => none }
def QuorumCombinesWrongFalsely : Prop := quorumCombinesRow.holds Tryz.pinned (OpenSpec.ofChange quorumCombinesWrong)

/-- 'greatseallaw06.QuorumParts': WHATEVER THE INPUT: true; the input reads as it did. -/
def quorumPartsSpec : ChangeSpec := { name := "quorumParts", fn := fun _ => fun
  | [d1, d2, d3, d4, d5, d6] => { results := [.lit (.bool true)], args := [d1, d2, d3, d4, d5, d6] }
  | _ => none }
def quorumPartsRow : OpenClaim := { program := "ytiecfamjnnmpaaagreat", sum := "6484ba1fd5ca1b752c1952ba13a1f67dc08c1b953fb493f13c466c32e04e7407", func := "greatseal/greatseallaw06.QuorumParts", spec := "quorumParts", inPlace := ["math/bits.Add64"], unfollowed := true, recurses := true, named := ["math/bits.divideError", "math/bits.overflowError"], apart := false }
def QuorumPartsSaid : Prop := quorumPartsRow.holds Tryz.pinned (OpenSpec.ofChange quorumPartsSpec)

/-- ITS FALSE NEIGHBOUR: 'it returns false'. Refute it at one input. -/
def quorumPartsWrong : ChangeSpec := { name := "quorumParts", fn := fun _ => fun
  | [d1, d2, d3, d4, d5, d6] => { results := [.lit (.bool false)], args := [d1, d2, d3, d4, d5, d6] }
  | _ => none }
def QuorumPartsWrongFalsely : Prop := quorumPartsRow.holds Tryz.pinned (OpenSpec.ofChange quorumPartsWrong)

/- THE SECOND FORM. 'bulk': how many values and letters a reading holds, each counted each time it is reached (what is shared counts as often as it is met; a slice's spare places count too). A statement '..UptoSaid' is the law's where the arguments, and the package variables that the reading takes, are together of bulk at most 1048576: NARROWER than '..Said'. Prove '..Said' where nothing that the law and all that it calls make is longer than what came in: it says more and counts as full. Else prove '..UptoSaid'. A law counts once. -/
mutual
def uptoBulk {H : Type} : DataW H → Nat
  | .lit (.string bytes) => bytes.length + 1
  | .lit _ => 1
  | .nil => 1
  | .ptr d => uptoBulk d + 1
  | .slice elems spare => uptoBulkAll elems + uptoBulkAll spare + 1
  | .agg parts => uptoBulkAll parts + 1
  | .iface _ d => uptoBulk d + 1
  | .map entries => uptoBulkEntries entries + 1
  | .held _ => 1
def uptoBulkAll {H : Type} : List (DataW H) → Nat
  | [] => 0
  | d :: r => uptoBulk d + uptoBulkAll r
def uptoBulkEntries {H : Type} : List (Lit × DataW H) → Nat
  | [] => 0
  | x :: r => uptoBulkEntry x + uptoBulkEntries r
def uptoBulkEntry {H : Type} : Lit × DataW H → Nat
  | (.string bytes, d) => bytes.length + uptoBulk d + 1
  | (_, d) => uptoBulk d + 1
 end
def uptoSmall : (H : Type) → List (DataW H) → Bool := fun _ ds => decide (uptoBulkAll ds ≤ 1048576)
def OpenSpec.upto (s : _root_.Go.ChangeSpec) : _root_.Go.OpenSpec := { _root_.Go.OpenSpec.ofChange s with cond := some uptoSmall }

/-- 'greatseallaw06.QuorumDeals', WHERE WHAT IT READS IS OF BULK AT MOST 1048576: true; the input reads as it did. -/
def quorumDealsUptoRow : OpenClaim := { program := "ytiecfamjnnmpaaagreat", sum := "6484ba1fd5ca1b752c1952ba13a1f67dc08c1b953fb493f13c466c32e04e7407", func := "greatseal/greatseallaw06.QuorumDeals", spec := "quorumDeals", inPlace := ["math/bits.Add64"], unfollowed := true, recurses := true, named := ["math/bits.divideError", "math/bits.overflowError"], apart := false, narrowed := true }
def QuorumDealsUptoSaid : Prop := quorumDealsUptoRow.holds Tryz.pinned (OpenSpec.upto quorumDealsSpec)

/-- 'greatseallaw06.QuorumCommits', WHERE WHAT IT READS IS OF BULK AT MOST 1048576: true; the input reads as it did. -/
def quorumCommitsUptoRow : OpenClaim := { program := "ytiecfamjnnmpaaagreat", sum := "6484ba1fd5ca1b752c1952ba13a1f67dc08c1b953fb493f13c466c32e04e7407", func := "greatseal/greatseallaw06.QuorumCommits", spec := "quorumCommits", inPlace := ["math/bits.Add64"], unfollowed := true, recurses := true, named := ["math/bits.divideError", "math/bits.overflowError"], apart := false, narrowed := true }
def QuorumCommitsUptoSaid : Prop := quorumCommitsUptoRow.holds Tryz.pinned (OpenSpec.upto quorumCommitsSpec)

/-- 'greatseallaw06.QuorumCombines', WHERE WHAT IT READS IS OF BULK AT MOST 1048576: true; the input reads as it did. -/
def quorumCombinesUptoRow : OpenClaim := { program := "ytiecfamjnnmpaaagreat", sum := "6484ba1fd5ca1b752c1952ba13a1f67dc08c1b953fb493f13c466c32e04e7407", func := "greatseal/greatseallaw06.QuorumCombines", spec := "quorumCombines", inPlace := ["math/bits.Add64"], unfollowed := true, recurses := true, named := ["math/bits.divideError", "math/bits.overflowError"], apart := false, narrowed := true }
def QuorumCombinesUptoSaid : Prop := quorumCombinesUptoRow.holds Tryz.pinned (OpenSpec.upto quorumCombinesSpec)

/-- 'greatseallaw06.QuorumParts', WHERE WHAT IT READS IS OF BULK AT MOST 1048576: true; the input reads as it did. -/
def quorumPartsUptoRow : OpenClaim := { program := "ytiecfamjnnmpaaagreat", sum := "6484ba1fd5ca1b752c1952ba13a1f67dc08c1b953fb493f13c466c32e04e7407", func := "greatseal/greatseallaw06.QuorumParts", spec := "quorumParts", inPlace := ["math/bits.Add64"], unfollowed := true, recurses := true, named := ["math/bits.divideError", "math/bits.overflowError"], apart := false, narrowed := true }
def QuorumPartsUptoSaid : Prop := quorumPartsUptoRow.holds Tryz.pinned (OpenSpec.upto quorumPartsSpec)

end Rows
end Go.Proofs.YtiecfamjnnmpaaaGreat
