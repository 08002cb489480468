/-
  DERIVED. GIVEN WITH THE SEED: THE CARDS: each row of YtbhdmfijdhcehaaGreatDoorRows.lean that lists a variable, with what it lists TIED to the program's text (the seventh form; the later family's looks); each row that meets fmt, with fmt's text TOLD by the authors' own Lean function (tested against real Go, not proved from fmt's source: count such statements apart). THE CARD IS WHAT COUNTS. Prove the row's statement (the work); the ties are given (YtbhdmfijdhcehaaGreatDoorTie.lean); close each card by the builder's one call (the guide's Derived/Test/ToyasCard.lean, 'card_holds'). Laid BY PROGRAM, IN A SANDBOX (cutbox-door.mjs). By AI agents, Wed Nov 11 2026. No macro, syntax, notation, axiom, sorry.
-/
import Derived.Test.YtbhdmfijdhcehaaGreatDoorRows
import GoSem.ClaimSeven
namespace Go.Proofs.YtbhdmfijdhcehaaGreatDoor
namespace Rows

/-- THE TIED CARD OF 'greatseallaw22.OrderBytes'. -/
def orderBytesCard : Claim7 := { stood := { row := orderBytesRow, standIns := [], harness := (true, "6edb288e16641a3a2dc5dbe9d7e42b25588c2da213cf389ff5b02c45c9b566f4"), looks := false }, kinds := [], alts := [], laidByText := true, laidKinds := [.data, .data, .data, .data, .pinned], laidTests := true, laidLooks := .later }
def OrderBytesCardSaid : Prop := Claim7.holds Tryz.pinned (.plain (OpenSpec.ofChange orderBytesSpec)) orderBytesCard

/-- THE TIED CARD OF 'greatseallaw22.OrderDoes'. -/
def orderDoesCard : Claim7 := { stood := { row := orderDoesRow, standIns := [], harness := (true, "6edb288e16641a3a2dc5dbe9d7e42b25588c2da213cf389ff5b02c45c9b566f4"), looks := false }, kinds := [], alts := [], laidByText := true, laidKinds := [.data, .data, .data, .data, .pinned], laidTests := true, laidLooks := .later }
def OrderDoesCardSaid : Prop := Claim7.holds Tryz.pinned (.plain (OpenSpec.ofChange orderDoesSpec)) orderDoesCard

/-- THE TIED CARD OF 'greatseallaw22.OrderTurns'. -/
def orderTurnsCard : Claim7 := { stood := { row := orderTurnsRow, standIns := [], harness := (true, "6edb288e16641a3a2dc5dbe9d7e42b25588c2da213cf389ff5b02c45c9b566f4"), looks := false }, kinds := [], alts := [], laidByText := true, laidKinds := [.data, .data, .data, .data, .pinned], laidTests := true, laidLooks := .later }
def OrderTurnsCardSaid : Prop := Claim7.holds Tryz.pinned (.plain (OpenSpec.ofChange orderTurnsSpec)) orderTurnsCard

/-- THE TIED CARD OF 'greatseallaw22.OrderShown'. -/
def orderShownCard : Claim7 := { stood := { row := orderShownRow, standIns := [], harness := (true, "6edb288e16641a3a2dc5dbe9d7e42b25588c2da213cf389ff5b02c45c9b566f4"), looks := false }, kinds := [], alts := [], laidByText := true, laidKinds := [.data, .data, .data, .data, .pinned], laidTests := true, laidLooks := .later }
def OrderShownCardSaid : Prop := Claim7.holds Tryz.pinned (.plain (OpenSpec.ofChange orderShownSpec)) orderShownCard

/-- THE TIED CARD OF 'greatseallaw22.OrderOnce'. -/
def orderOnceCard : Claim7 := { stood := { row := orderOnceRow, standIns := [], harness := (true, "6edb288e16641a3a2dc5dbe9d7e42b25588c2da213cf389ff5b02c45c9b566f4"), looks := false }, kinds := [], alts := [], laidByText := true, laidKinds := [.data, .data, .data, .data, .pinned], laidTests := true, laidLooks := .later }
def OrderOnceCardSaid : Prop := Claim7.holds Tryz.pinned (.plain (OpenSpec.ofChange orderOnceSpec)) orderOnceCard

/-- THE TIED CARD OF 'greatseallaw22.OrderOthers'. -/
def orderOthersCard : Claim7 := { stood := { row := orderOthersRow, standIns := [], harness := (true, "6edb288e16641a3a2dc5dbe9d7e42b25588c2da213cf389ff5b02c45c9b566f4"), looks := false }, kinds := [], alts := [], laidByText := true, laidKinds := [.data, .data, .data, .data, .pinned], laidTests := true, laidLooks := .later }
def OrderOthersCardSaid : Prop := Claim7.holds Tryz.pinned (.plain (OpenSpec.ofChange orderOthersSpec)) orderOthersCard

/-- THE TIED CARD OF 'greatseallaw22.OrderStays'. -/
def orderStaysCard : Claim7 := { stood := { row := orderStaysRow, standIns := [], harness := (true, "6edb288e16641a3a2dc5dbe9d7e42b25588c2da213cf389ff5b02c45c9b566f4"), looks := false }, kinds := [], alts := [], laidByText := true, laidKinds := [.data, .data, .data, .data, .pinned], laidTests := true, laidLooks := .later }
def OrderStaysCardSaid : Prop := Claim7.holds Tryz.pinned (.plain (OpenSpec.ofChange orderStaysSpec)) orderStaysCard

/-- THE TIED CARD OF 'greatseallaw22.OrderAgain'. -/
def orderAgainCard : Claim7 := { stood := { row := orderAgainRow, standIns := [], harness := (true, "6edb288e16641a3a2dc5dbe9d7e42b25588c2da213cf389ff5b02c45c9b566f4"), looks := false }, kinds := [], alts := [], laidByText := true, laidKinds := [.data, .data, .data, .data, .pinned], laidTests := true, laidLooks := .later }
def OrderAgainCardSaid : Prop := Claim7.holds Tryz.pinned (.plain (OpenSpec.ofChange orderAgainSpec)) orderAgainCard

/-- THE TIED CARD OF 'greatseallaw22.OrderSerials'. -/
def orderSerialsCard : Claim7 := { stood := { row := orderSerialsRow, standIns := [], harness := (true, "6edb288e16641a3a2dc5dbe9d7e42b25588c2da213cf389ff5b02c45c9b566f4"), looks := false }, kinds := [], alts := [], laidByText := true, laidKinds := [.data, .data, .data, .data, .pinned], laidTests := true, laidLooks := .later }
def OrderSerialsCardSaid : Prop := Claim7.holds Tryz.pinned (.plain (OpenSpec.ofChange orderSerialsSpec)) orderSerialsCard

/-- THE SECOND FORM's CARD OF 'greatseallaw22.OrderBytes'. -/
def orderBytesUptoCard : Claim7 := { stood := { row := orderBytesUptoRow, standIns := [], harness := (true, "6edb288e16641a3a2dc5dbe9d7e42b25588c2da213cf389ff5b02c45c9b566f4"), looks := false }, kinds := [], alts := [], laidByText := true, laidKinds := [.data, .data, .data, .data, .pinned], laidTests := true, laidLooks := .later }
def OrderBytesUptoCardSaid : Prop := Claim7.holds Tryz.pinned (.plain (OpenSpec.upto orderBytesSpec)) orderBytesUptoCard

/-- THE SECOND FORM's CARD OF 'greatseallaw22.OrderDoes'. -/
def orderDoesUptoCard : Claim7 := { stood := { row := orderDoesUptoRow, standIns := [], harness := (true, "6edb288e16641a3a2dc5dbe9d7e42b25588c2da213cf389ff5b02c45c9b566f4"), looks := false }, kinds := [], alts := [], laidByText := true, laidKinds := [.data, .data, .data, .data, .pinned], laidTests := true, laidLooks := .later }
def OrderDoesUptoCardSaid : Prop := Claim7.holds Tryz.pinned (.plain (OpenSpec.upto orderDoesSpec)) orderDoesUptoCard

/-- THE SECOND FORM's CARD OF 'greatseallaw22.OrderTurns'. -/
def orderTurnsUptoCard : Claim7 := { stood := { row := orderTurnsUptoRow, standIns := [], harness := (true, "6edb288e16641a3a2dc5dbe9d7e42b25588c2da213cf389ff5b02c45c9b566f4"), looks := false }, kinds := [], alts := [], laidByText := true, laidKinds := [.data, .data, .data, .data, .pinned], laidTests := true, laidLooks := .later }
def OrderTurnsUptoCardSaid : Prop := Claim7.holds Tryz.pinned (.plain (OpenSpec.upto orderTurnsSpec)) orderTurnsUptoCard

/-- THE SECOND FORM's CARD OF 'greatseallaw22.OrderShown'. -/
def orderShownUptoCard : Claim7 := { stood := { row := orderShownUptoRow, standIns := [], harness := (true, "6edb288e16641a3a2dc5dbe9d7e42b25588c2da213cf389ff5b02c45c9b566f4"), looks := false }, kinds := [], alts := [], laidByText := true, laidKinds := [.data, .data, .data, .data, .pinned], laidTests := true, laidLooks := .later }
def OrderShownUptoCardSaid : Prop := Claim7.holds Tryz.pinned (.plain (OpenSpec.upto orderShownSpec)) orderShownUptoCard

/-- THE SECOND FORM's CARD OF 'greatseallaw22.OrderOnce'. -/
def orderOnceUptoCard : Claim7 := { stood := { row := orderOnceUptoRow, standIns := [], harness := (true, "6edb288e16641a3a2dc5dbe9d7e42b25588c2da213cf389ff5b02c45c9b566f4"), looks := false }, kinds := [], alts := [], laidByText := true, laidKinds := [.data, .data, .data, .data, .pinned], laidTests := true, laidLooks := .later }
def OrderOnceUptoCardSaid : Prop := Claim7.holds Tryz.pinned (.plain (OpenSpec.upto orderOnceSpec)) orderOnceUptoCard

/-- THE SECOND FORM's CARD OF 'greatseallaw22.OrderOthers'. -/
def orderOthersUptoCard : Claim7 := { stood := { row := orderOthersUptoRow, standIns := [], harness := (true, "6edb288e16641a3a2dc5dbe9d7e42b25588c2da213cf389ff5b02c45c9b566f4"), looks := false }, kinds := [], alts := [], laidByText := true, laidKinds := [.data, .data, .data, .data, .pinned], laidTests := true, laidLooks := .later }
def OrderOthersUptoCardSaid : Prop := Claim7.holds Tryz.pinned (.plain (OpenSpec.upto orderOthersSpec)) orderOthersUptoCard

/-- THE SECOND FORM's CARD OF 'greatseallaw22.OrderStays'. -/
def orderStaysUptoCard : Claim7 := { stood := { row := orderStaysUptoRow, standIns := [], harness := (true, "6edb288e16641a3a2dc5dbe9d7e42b25588c2da213cf389ff5b02c45c9b566f4"), looks := false }, kinds := [], alts := [], laidByText := true, laidKinds := [.data, .data, .data, .data, .pinned], laidTests := true, laidLooks := .later }
def OrderStaysUptoCardSaid : Prop := Claim7.holds Tryz.pinned (.plain (OpenSpec.upto orderStaysSpec)) orderStaysUptoCard

/-- THE SECOND FORM's CARD OF 'greatseallaw22.OrderAgain'. -/
def orderAgainUptoCard : Claim7 := { stood := { row := orderAgainUptoRow, standIns := [], harness := (true, "6edb288e16641a3a2dc5dbe9d7e42b25588c2da213cf389ff5b02c45c9b566f4"), looks := false }, kinds := [], alts := [], laidByText := true, laidKinds := [.data, .data, .data, .data, .pinned], laidTests := true, laidLooks := .later }
def OrderAgainUptoCardSaid : Prop := Claim7.holds Tryz.pinned (.plain (OpenSpec.upto orderAgainSpec)) orderAgainUptoCard

/-- THE SECOND FORM's CARD OF 'greatseallaw22.OrderSerials'. -/
def orderSerialsUptoCard : Claim7 := { stood := { row := orderSerialsUptoRow, standIns := [], harness := (true, "6edb288e16641a3a2dc5dbe9d7e42b25588c2da213cf389ff5b02c45c9b566f4"), looks := false }, kinds := [], alts := [], laidByText := true, laidKinds := [.data, .data, .data, .data, .pinned], laidTests := true, laidLooks := .later }
def OrderSerialsUptoCardSaid : Prop := Claim7.holds Tryz.pinned (.plain (OpenSpec.upto orderSerialsSpec)) orderSerialsUptoCard
end Rows
end Go.Proofs.YtbhdmfijdhcehaaGreatDoor
