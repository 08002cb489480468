/-
  No cell of these rows narrows 'for every input' (looked for: loops, veiled, ifaces, maps, wideKeys, modest, calm, conditions, laid).
  DERIVED. THE GIVEN ROWS OF THIS SEAT. 8 by the template 'for every input the law returns true; each argument reads behind the call as it read before'; 0 by the template 'total and deterministic' (their statements: YtbomfnlipbdigaaTotals.lean).
  GIVEN WITH THE SEED: the statements are not yours to turn. If you find one false, say at which input.
  Laid BY PROGRAM, IN A SANDBOX (cutbox-rows.mjs): the forced cells as the released guide's own fill.sh prints them over the translation c33e2cb6df040181… (all of the seat's roots in one cut). By AI agents, Wed Nov 11 2026. No macro, syntax, notation, axiom, sorry.
-/
import Derived.Test.YtbomfnlipbdigaaChecked
import GoSem.Claim
import GoSem.ClaimJoined
import GoSem.ClaimMapViews
import Derived.JoinedTies
import Derived.KernelRfl
namespace Go.Proofs.Ytbomfnlipbdigaa
/- THE CELL 'sum', in the pinned program and in every row, IS THE sha256 OF THE DUMP (.gsa) THAT YtbomfnlipbdigaaProg.lean LOADS. Nothing in Lean hashes anything: it is a label: what it is worth is what the hold of that sum in a sandbox is worth. -/
noncomputable def Try.pinned : Pinned := { name := "ytbomfnlipbdigaa", sum := "c33e2cb6df040181d239c42a0aab498bd84a3110b22adefb044e121c5a7dc5ea", checked := Try.checked }
namespace Rows
def none {H : Type} : Left H := { results := [], args := [] }

/-- 'greatseallaw04.SignKeys': WHATEVER THE INPUT: true; the input reads as it did. -/
def signKeysSpec : ChangeSpec := { name := "signKeys", fn := fun _ => fun
  | [d1, d2, d3] => { results := [.lit (.bool true)], args := [d1, d2, d3] }
  | _ => none }
def signKeysRow : OpenClaim := { program := "ytbomfnlipbdigaa", sum := "c33e2cb6df040181d239c42a0aab498bd84a3110b22adefb044e121c5a7dc5ea", func := "greatseal/greatseallaw04.SignKeys", spec := "signKeys", inPlace := ["math/bits.Add64"], unfollowed := true, recurses := true, named := ["math/bits.divideError", "math/bits.overflowError"], apart := false }
def SignKeysSaid : Prop := signKeysRow.holds Try.pinned (OpenSpec.ofChange signKeysSpec)

/-- ITS FALSE NEIGHBOUR: 'it returns false'. Refute it at one input. -/
def signKeysWrong : ChangeSpec := { name := "signKeys", fn := fun _ => fun
  | [d1, d2, d3] => { results := [.lit (.bool false)], args := [d1, d2, d3] }
  | _ => none }
def SignKeysWrongFalsely : Prop := signKeysRow.holds Try.pinned (OpenSpec.ofChange signKeysWrong)

/-- 'greatseallaw04.SignSigns': WHATEVER THE INPUT: true; the input reads as it did. -/
def signSignsSpec : ChangeSpec := { name := "signSigns", fn := fun _ => fun
  | [d1, d2, d3, d4] => { results := [.lit (.bool true)], args := [d1, d2, d3, d4] }
  | _ => none }
def signSignsRow : OpenClaim := { program := "ytbomfnlipbdigaa", sum := "c33e2cb6df040181d239c42a0aab498bd84a3110b22adefb044e121c5a7dc5ea", func := "greatseal/greatseallaw04.SignSigns", spec := "signSigns", inPlace := ["math/bits.Add64"], unfollowed := true, recurses := true, named := ["math/bits.divideError", "math/bits.overflowError"], apart := false }
def SignSignsSaid : Prop := signSignsRow.holds Try.pinned (OpenSpec.ofChange signSignsSpec)

/-- ITS FALSE NEIGHBOUR: 'it returns false'. Refute it at one input. -/
def signSignsWrong : ChangeSpec := { name := "signSigns", fn := fun _ => fun
  | [d1, d2, d3, d4] => { results := [.lit (.bool false)], args := [d1, d2, d3, d4] }
  | _ => none }
def SignSignsWrongFalsely : Prop := signSignsRow.holds Try.pinned (OpenSpec.ofChange signSignsWrong)

/-- 'greatseallaw04.SignRight': WHATEVER THE INPUT: true; the input reads as it did. -/
def signRightSpec : ChangeSpec := { name := "signRight", fn := fun _ => fun
  | [d1, d2] => { results := [.lit (.bool true)], args := [d1, d2] }
  | _ => none }
def signRightRow : OpenClaim := { program := "ytbomfnlipbdigaa", sum := "c33e2cb6df040181d239c42a0aab498bd84a3110b22adefb044e121c5a7dc5ea", func := "greatseal/greatseallaw04.SignRight", spec := "signRight", inPlace := ["math/bits.Add64"], unfollowed := true, recurses := true, named := ["math/bits.divideError", "math/bits.overflowError"], apart := false }
def SignRightSaid : Prop := signRightRow.holds Try.pinned (OpenSpec.ofChange signRightSpec)

/-- ITS FALSE NEIGHBOUR: 'it returns false'. Refute it at one input. -/
def signRightWrong : ChangeSpec := { name := "signRight", fn := fun _ => fun
  | [d1, d2] => { results := [.lit (.bool false)], args := [d1, d2] }
  | _ => none }
def SignRightWrongFalsely : Prop := signRightRow.holds Try.pinned (OpenSpec.ofChange signRightWrong)

/-- 'greatseallaw04.SignSeed': WHATEVER THE INPUT: true; the input reads as it did. -/
def signSeedSpec : ChangeSpec := { name := "signSeed", fn := fun _ => fun
  | [d1, d2] => { results := [.lit (.bool true)], args := [d1, d2] }
  | _ => none }
def signSeedRow : OpenClaim := { program := "ytbomfnlipbdigaa", sum := "c33e2cb6df040181d239c42a0aab498bd84a3110b22adefb044e121c5a7dc5ea", func := "greatseal/greatseallaw04.SignSeed", spec := "signSeed", inPlace := ["math/bits.Add64"], unfollowed := true, recurses := true, named := ["math/bits.divideError", "math/bits.overflowError"], apart := false }
def SignSeedSaid : Prop := signSeedRow.holds Try.pinned (OpenSpec.ofChange signSeedSpec)

/-- ITS FALSE NEIGHBOUR: 'it returns false'. Refute it at one input. -/
def signSeedWrong : ChangeSpec := { name := "signSeed", fn := fun _ => fun
  | [d1, d2] => { results := [.lit (.bool false)], args := [d1, d2] }
  | _ => none }
def SignSeedWrongFalsely : Prop := signSeedRow.holds Try.pinned (OpenSpec.ofChange signSeedWrong)

/-- 'greatseallaw04.SignNonce': WHATEVER THE INPUT: true; the input reads as it did. -/
def signNonceSpec : ChangeSpec := { name := "signNonce", fn := fun _ => fun
  | [d1, d2, d3] => { results := [.lit (.bool true)], args := [d1, d2, d3] }
  | _ => none }
def signNonceRow : OpenClaim := { program := "ytbomfnlipbdigaa", sum := "c33e2cb6df040181d239c42a0aab498bd84a3110b22adefb044e121c5a7dc5ea", func := "greatseal/greatseallaw04.SignNonce", spec := "signNonce", inPlace := ["math/bits.Add64"], unfollowed := true, recurses := true, named := ["math/bits.divideError", "math/bits.overflowError"], apart := false }
def SignNonceSaid : Prop := signNonceRow.holds Try.pinned (OpenSpec.ofChange signNonceSpec)

/-- ITS FALSE NEIGHBOUR: 'it returns false'. Refute it at one input. -/
def signNonceWrong : ChangeSpec := { name := "signNonce", fn := fun _ => fun
  | [d1, d2, d3] => { results := [.lit (.bool false)], args := [d1, d2, d3] }
  | _ => none }
def SignNonceWrongFalsely : Prop := signNonceRow.holds Try.pinned (OpenSpec.ofChange signNonceWrong)

/-- 'greatseallaw04.SignSays': WHATEVER THE INPUT: true; the input reads as it did. -/
def signSaysSpec : ChangeSpec := { name := "signSays", fn := fun _ => fun
  | [d1, d2, d3] => { results := [.lit (.bool true)], args := [d1, d2, d3] }
  | _ => none }
def signSaysRow : OpenClaim := { program := "ytbomfnlipbdigaa", sum := "c33e2cb6df040181d239c42a0aab498bd84a3110b22adefb044e121c5a7dc5ea", func := "greatseal/greatseallaw04.SignSays", spec := "signSays", inPlace := ["math/bits.Add64"], unfollowed := true, recurses := true, named := ["math/bits.divideError", "math/bits.overflowError"], apart := false }
def SignSaysSaid : Prop := signSaysRow.holds Try.pinned (OpenSpec.ofChange signSaysSpec)

/-- ITS FALSE NEIGHBOUR: 'it returns false'. Refute it at one input. -/
def signSaysWrong : ChangeSpec := { name := "signSays", fn := fun _ => fun
  | [d1, d2, d3] => { results := [.lit (.bool false)], args := [d1, d2, d3] }
  | _ => none }
def SignSaysWrongFalsely : Prop := signSaysRow.holds Try.pinned (OpenSpec.ofChange signSaysWrong)

/-- 'greatseallaw04.SignUnlike': WHATEVER THE INPUT: true; the input reads as it did. -/
def signUnlikeSpec : ChangeSpec := { name := "signUnlike", fn := fun _ => fun
  | [d1, d2] => { results := [.lit (.bool true)], args := [d1, d2] }
  | _ => none }
def signUnlikeRow : OpenClaim := { program := "ytbomfnlipbdigaa", sum := "c33e2cb6df040181d239c42a0aab498bd84a3110b22adefb044e121c5a7dc5ea", func := "greatseal/greatseallaw04.SignUnlike", spec := "signUnlike", inPlace := ["math/bits.Add64"], unfollowed := true, recurses := true, named := ["math/bits.divideError", "math/bits.overflowError"], apart := false }
def SignUnlikeSaid : Prop := signUnlikeRow.holds Try.pinned (OpenSpec.ofChange signUnlikeSpec)

/-- ITS FALSE NEIGHBOUR: 'it returns false'. Refute it at one input. -/
def signUnlikeWrong : ChangeSpec := { name := "signUnlike", fn := fun _ => fun
  | [d1, d2] => { results := [.lit (.bool false)], args := [d1, d2] }
  | _ => none }
def SignUnlikeWrongFalsely : Prop := signUnlikeRow.holds Try.pinned (OpenSpec.ofChange signUnlikeWrong)

/-- 'greatseallaw04.SignTwice': WHATEVER THE INPUT: true; the input reads as it did. -/
def signTwiceSpec : ChangeSpec := { name := "signTwice", fn := fun _ => fun
  | [d1, d2, d3, d4] => { results := [.lit (.bool true)], args := [d1, d2, d3, d4] }
  | _ => none }
def signTwiceRow : OpenClaim := { program := "ytbomfnlipbdigaa", sum := "c33e2cb6df040181d239c42a0aab498bd84a3110b22adefb044e121c5a7dc5ea", func := "greatseal/greatseallaw04.SignTwice", spec := "signTwice", inPlace := ["math/bits.Add64"], unfollowed := true, recurses := true, named := ["math/bits.divideError", "math/bits.overflowError"], apart := false }
def SignTwiceSaid : Prop := signTwiceRow.holds Try.pinned (OpenSpec.ofChange signTwiceSpec)

/-- ITS FALSE NEIGHBOUR: 'it returns false'. Refute it at one input. -/
def signTwiceWrong : ChangeSpec := { name := "signTwice", fn := fun _ => fun
  | [d1, d2, d3, d4] => { results := [.lit (.bool false)], args := [d1, d2, d3, d4] }
  | _ => none }
def SignTwiceWrongFalsely : Prop := signTwiceRow.holds Try.pinned (OpenSpec.ofChange signTwiceWrong)

/- THE SECOND FORM. 'bulk': how many values and letters a reading holds, each counted each time it is reached (what is shared counts as often as it is met; a slice's spare places count too). A statement '..UptoSaid' is the law's where the arguments, and the package variables that the reading takes, are together of bulk at most 1048576: NARROWER than '..Said'. Prove '..Said' where nothing that the law and all that it calls make is longer than what came in: it says more and counts as full. Else prove '..UptoSaid'. A law counts once. -/
mutual
def uptoBulk {H : Type} : DataW H → Nat
  | .lit (.string bytes) => bytes.length + 1
  | .lit _ => 1
  | .nil => 1
  | .ptr d => uptoBulk d + 1
  | .slice elems spare => uptoBulkAll elems + uptoBulkAll spare + 1
  | .agg parts => uptoBulkAll parts + 1
  | .iface _ d => uptoBulk d + 1
  | .map entries => uptoBulkEntries entries + 1
  | .held _ => 1
def uptoBulkAll {H : Type} : List (DataW H) → Nat
  | [] => 0
  | d :: r => uptoBulk d + uptoBulkAll r
def uptoBulkEntries {H : Type} : List (Lit × DataW H) → Nat
  | [] => 0
  | x :: r => uptoBulkEntry x + uptoBulkEntries r
def uptoBulkEntry {H : Type} : Lit × DataW H → Nat
  | (.string bytes, d) => bytes.length + uptoBulk d + 1
  | (_, d) => uptoBulk d + 1
 end
def uptoSmall : (H : Type) → List (DataW H) → Bool := fun _ ds => decide (uptoBulkAll ds ≤ 1048576)
def OpenSpec.upto (s : _root_.Go.ChangeSpec) : _root_.Go.OpenSpec := { _root_.Go.OpenSpec.ofChange s with cond := some uptoSmall }

/-- 'greatseallaw04.SignKeys', WHERE WHAT IT READS IS OF BULK AT MOST 1048576: true; the input reads as it did. -/
def signKeysUptoRow : OpenClaim := { program := "ytbomfnlipbdigaa", sum := "c33e2cb6df040181d239c42a0aab498bd84a3110b22adefb044e121c5a7dc5ea", func := "greatseal/greatseallaw04.SignKeys", spec := "signKeys", inPlace := ["math/bits.Add64"], unfollowed := true, recurses := true, named := ["math/bits.divideError", "math/bits.overflowError"], apart := false, narrowed := true }
def SignKeysUptoSaid : Prop := signKeysUptoRow.holds Try.pinned (OpenSpec.upto signKeysSpec)

/-- 'greatseallaw04.SignSigns', WHERE WHAT IT READS IS OF BULK AT MOST 1048576: true; the input reads as it did. -/
def signSignsUptoRow : OpenClaim := { program := "ytbomfnlipbdigaa", sum := "c33e2cb6df040181d239c42a0aab498bd84a3110b22adefb044e121c5a7dc5ea", func := "greatseal/greatseallaw04.SignSigns", spec := "signSigns", inPlace := ["math/bits.Add64"], unfollowed := true, recurses := true, named := ["math/bits.divideError", "math/bits.overflowError"], apart := false, narrowed := true }
def SignSignsUptoSaid : Prop := signSignsUptoRow.holds Try.pinned (OpenSpec.upto signSignsSpec)

/-- 'greatseallaw04.SignRight', WHERE WHAT IT READS IS OF BULK AT MOST 1048576: true; the input reads as it did. -/
def signRightUptoRow : OpenClaim := { program := "ytbomfnlipbdigaa", sum := "c33e2cb6df040181d239c42a0aab498bd84a3110b22adefb044e121c5a7dc5ea", func := "greatseal/greatseallaw04.SignRight", spec := "signRight", inPlace := ["math/bits.Add64"], unfollowed := true, recurses := true, named := ["math/bits.divideError", "math/bits.overflowError"], apart := false, narrowed := true }
def SignRightUptoSaid : Prop := signRightUptoRow.holds Try.pinned (OpenSpec.upto signRightSpec)

/-- 'greatseallaw04.SignSeed', WHERE WHAT IT READS IS OF BULK AT MOST 1048576: true; the input reads as it did. -/
def signSeedUptoRow : OpenClaim := { program := "ytbomfnlipbdigaa", sum := "c33e2cb6df040181d239c42a0aab498bd84a3110b22adefb044e121c5a7dc5ea", func := "greatseal/greatseallaw04.SignSeed", spec := "signSeed", inPlace := ["math/bits.Add64"], unfollowed := true, recurses := true, named := ["math/bits.divideError", "math/bits.overflowError"], apart := false, narrowed := true }
def SignSeedUptoSaid : Prop := signSeedUptoRow.holds Try.pinned (OpenSpec.upto signSeedSpec)

/-- 'greatseallaw04.SignNonce', WHERE WHAT IT READS IS OF BULK AT MOST 1048576: true; the input reads as it did. -/
def signNonceUptoRow : OpenClaim := { program := "ytbomfnlipbdigaa", sum := "c33e2cb6df040181d239c42a0aab498bd84a3110b22adefb044e121c5a7dc5ea", func := "greatseal/greatseallaw04.SignNonce", spec := "signNonce", inPlace := ["math/bits.Add64"], unfollowed := true, recurses := true, named := ["math/bits.divideError", "math/bits.overflowError"], apart := false, narrowed := true }
def SignNonceUptoSaid : Prop := signNonceUptoRow.holds Try.pinned (OpenSpec.upto signNonceSpec)

/-- 'greatseallaw04.SignSays', WHERE WHAT IT READS IS OF BULK AT MOST 1048576: true; the input reads as it did. -/
def signSaysUptoRow : OpenClaim := { program := "ytbomfnlipbdigaa", sum := "c33e2cb6df040181d239c42a0aab498bd84a3110b22adefb044e121c5a7dc5ea", func := "greatseal/greatseallaw04.SignSays", spec := "signSays", inPlace := ["math/bits.Add64"], unfollowed := true, recurses := true, named := ["math/bits.divideError", "math/bits.overflowError"], apart := false, narrowed := true }
def SignSaysUptoSaid : Prop := signSaysUptoRow.holds Try.pinned (OpenSpec.upto signSaysSpec)

/-- 'greatseallaw04.SignUnlike', WHERE WHAT IT READS IS OF BULK AT MOST 1048576: true; the input reads as it did. -/
def signUnlikeUptoRow : OpenClaim := { program := "ytbomfnlipbdigaa", sum := "c33e2cb6df040181d239c42a0aab498bd84a3110b22adefb044e121c5a7dc5ea", func := "greatseal/greatseallaw04.SignUnlike", spec := "signUnlike", inPlace := ["math/bits.Add64"], unfollowed := true, recurses := true, named := ["math/bits.divideError", "math/bits.overflowError"], apart := false, narrowed := true }
def SignUnlikeUptoSaid : Prop := signUnlikeUptoRow.holds Try.pinned (OpenSpec.upto signUnlikeSpec)

/-- 'greatseallaw04.SignTwice', WHERE WHAT IT READS IS OF BULK AT MOST 1048576: true; the input reads as it did. -/
def signTwiceUptoRow : OpenClaim := { program := "ytbomfnlipbdigaa", sum := "c33e2cb6df040181d239c42a0aab498bd84a3110b22adefb044e121c5a7dc5ea", func := "greatseal/greatseallaw04.SignTwice", spec := "signTwice", inPlace := ["math/bits.Add64"], unfollowed := true, recurses := true, named := ["math/bits.divideError", "math/bits.overflowError"], apart := false, narrowed := true }
def SignTwiceUptoSaid : Prop := signTwiceUptoRow.holds Try.pinned (OpenSpec.upto signTwiceSpec)

end Rows
end Go.Proofs.Ytbomfnlipbdigaa
