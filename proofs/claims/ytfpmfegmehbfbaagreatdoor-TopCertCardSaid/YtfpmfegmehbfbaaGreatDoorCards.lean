/-
  DERIVED. GIVEN WITH THE SEED: THE CARDS: each row of YtfpmfegmehbfbaaGreatDoorRows.lean that lists a variable, with what it lists TIED to the program's text (the seventh form; the later family's looks); each row that meets fmt, with fmt's text TOLD by the authors' own Lean function (tested against real Go, not proved from fmt's source: count such statements apart). THE CARD IS WHAT COUNTS. Prove the row's statement (the work); the ties are given (YtfpmfegmehbfbaaGreatDoorTie.lean); close each card by the builder's one call (the guide's Derived/Test/ToyasCard.lean, 'card_holds'). Laid BY PROGRAM, IN A SANDBOX (cutbox-door.mjs). By AI agents, Wed Nov 11 2026. No macro, syntax, notation, axiom, sorry.
-/
import Derived.Test.YtfpmfegmehbfbaaGreatDoorRows
import GoSem.ClaimSeven
namespace Go.Proofs.YtfpmfegmehbfbaaGreatDoor
namespace Rows

/-- THE TIED CARD OF 'greatsealtop.TopGrow'. -/
def topGrowCard : Claim7 := { stood := { row := topGrowRow, standIns := [], harness := (true, "da27024f994a3ac5d2f0612c39ef95a0ccaca23a9cfb07844970c9759870bdce"), looks := true }, kinds := [], alts := [], laidByText := true, laidKinds := [.data, .data, .data, .data, .sentinel, .sentinel, .funcsDeep, .pinned], laidTests := true, laidLooks := .later }
def TopGrowCardSaid : Prop := Claim7.holds Tryz.pinned (.plain (OpenSpec.ofChange topGrowSpec)) topGrowCard

/-- THE TIED CARD OF 'greatsealtop.TopLog'. -/
def topLogCard : Claim7 := { stood := { row := topLogRow, standIns := [], harness := (true, "da27024f994a3ac5d2f0612c39ef95a0ccaca23a9cfb07844970c9759870bdce"), looks := true }, kinds := [], alts := [], laidByText := true, laidKinds := [.data, .data, .data, .data, .sentinel, .sentinel, .funcsDeep, .pinned], laidTests := true, laidLooks := .later }
def TopLogCardSaid : Prop := Claim7.holds Tryz.pinned (.plain (OpenSpec.ofChange topLogSpec)) topLogCard

/-- THE TIED CARD OF 'greatsealtop.TopCert'. -/
def topCertCard : Claim7 := { stood := { row := topCertRow, standIns := [], harness := (true, "da27024f994a3ac5d2f0612c39ef95a0ccaca23a9cfb07844970c9759870bdce"), looks := true }, kinds := [], alts := [], laidByText := true, laidKinds := [.data, .data, .data, .data, .sentinel, .sentinel, .funcsDeep, .pinned], laidTests := true, laidLooks := .later }
def TopCertCardSaid : Prop := Claim7.holds Tryz.pinned (.plain (OpenSpec.ofChange topCertSpec)) topCertCard

/-- THE TIED CARD OF 'greatsealtop.TopDoor'. -/
def topDoorCard : Claim7 := { stood := { row := topDoorRow, standIns := [], harness := (true, "da27024f994a3ac5d2f0612c39ef95a0ccaca23a9cfb07844970c9759870bdce"), looks := true }, kinds := [], alts := [], laidByText := true, laidKinds := [.data, .data, .data, .data, .sentinel, .sentinel, .funcsDeep, .pinned], laidTests := true, laidLooks := .later }
def TopDoorCardSaid : Prop := Claim7.holds Tryz.pinned (.plain (OpenSpec.ofChange topDoorSpec)) topDoorCard

/-- THE SECOND FORM's CARD OF 'greatsealtop.TopGrow'. -/
def topGrowUptoCard : Claim7 := { stood := { row := topGrowUptoRow, standIns := [], harness := (true, "da27024f994a3ac5d2f0612c39ef95a0ccaca23a9cfb07844970c9759870bdce"), looks := true }, kinds := [], alts := [], laidByText := true, laidKinds := [.data, .data, .data, .data, .sentinel, .sentinel, .funcsDeep, .pinned], laidTests := true, laidLooks := .later }
def TopGrowUptoCardSaid : Prop := Claim7.holds Tryz.pinned (.plain (OpenSpec.upto topGrowSpec)) topGrowUptoCard

/-- THE SECOND FORM's CARD OF 'greatsealtop.TopLog'. -/
def topLogUptoCard : Claim7 := { stood := { row := topLogUptoRow, standIns := [], harness := (true, "da27024f994a3ac5d2f0612c39ef95a0ccaca23a9cfb07844970c9759870bdce"), looks := true }, kinds := [], alts := [], laidByText := true, laidKinds := [.data, .data, .data, .data, .sentinel, .sentinel, .funcsDeep, .pinned], laidTests := true, laidLooks := .later }
def TopLogUptoCardSaid : Prop := Claim7.holds Tryz.pinned (.plain (OpenSpec.upto topLogSpec)) topLogUptoCard

/-- THE SECOND FORM's CARD OF 'greatsealtop.TopCert'. -/
def topCertUptoCard : Claim7 := { stood := { row := topCertUptoRow, standIns := [], harness := (true, "da27024f994a3ac5d2f0612c39ef95a0ccaca23a9cfb07844970c9759870bdce"), looks := true }, kinds := [], alts := [], laidByText := true, laidKinds := [.data, .data, .data, .data, .sentinel, .sentinel, .funcsDeep, .pinned], laidTests := true, laidLooks := .later }
def TopCertUptoCardSaid : Prop := Claim7.holds Tryz.pinned (.plain (OpenSpec.upto topCertSpec)) topCertUptoCard

/-- THE SECOND FORM's CARD OF 'greatsealtop.TopDoor'. -/
def topDoorUptoCard : Claim7 := { stood := { row := topDoorUptoRow, standIns := [], harness := (true, "da27024f994a3ac5d2f0612c39ef95a0ccaca23a9cfb07844970c9759870bdce"), looks := true }, kinds := [], alts := [], laidByText := true, laidKinds := [.data, .data, .data, .data, .sentinel, .sentinel, .funcsDeep, .pinned], laidTests := true, laidLooks := .later }
def TopDoorUptoCardSaid : Prop := Claim7.holds Tryz.pinned (.plain (OpenSpec.upto topDoorSpec)) topDoorUptoCard
end Rows
end Go.Proofs.YtfpmfegmehbfbaaGreatDoor
