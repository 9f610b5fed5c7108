/-
  DERIVED. GIVEN WITH THE SEED: THE CARDS: each row of YtmaalbbclldnpaaGreatDoorRows.lean that lists a variable, with what it lists TIED to the program's text (the seventh form; the later family's looks); each row that meets fmt, with fmt's text TOLD by the authors' own Lean function (tested against real Go, not proved from fmt's source: count such statements apart). THE CARD IS WHAT COUNTS. Prove the row's statement (the work); the ties are given (YtmaalbbclldnpaaGreatDoorTie.lean); close each card by the builder's one call (the guide's Derived/Test/ToyasCard.lean, 'card_holds'). Laid BY PROGRAM, IN A SANDBOX (cutbox-door.mjs). By AI agents, Wed Nov 11 2026. No macro, syntax, notation, axiom, sorry.
-/
import Derived.Test.YtmaalbbclldnpaaGreatDoorRows
import GoSem.ClaimSeven
namespace Go.Proofs.YtmaalbbclldnpaaGreatDoor
namespace Rows

/-- THE TIED CARD OF 'corncriblaw13.ShipTakes'. -/
def shipTakesCard : Claim7 := { stood := { row := shipTakesRow, standIns := [], harness := (true, "5316732fa157376e9e027248f401d8308bb3856db627641326fd81d1c8d9a197"), looks := true }, kinds := [], alts := [], laidByText := true, laidKinds := [.data, .data, .data], laidTests := true, laidLooks := .later }
def ShipTakesCardSaid : Prop := Claim7.holds Tryz.pinned (.plain (OpenSpec.ofChange shipTakesSpec)) shipTakesCard

/-- THE TIED CARD OF 'corncriblaw13.ShipPages'. -/
def shipPagesCard : Claim7 := { stood := { row := shipPagesRow, standIns := [], harness := (true, "5316732fa157376e9e027248f401d8308bb3856db627641326fd81d1c8d9a197"), looks := true }, kinds := [], alts := [], laidByText := true, laidKinds := [.data, .data, .data], laidTests := true, laidLooks := .later }
def ShipPagesCardSaid : Prop := Claim7.holds Tryz.pinned (.plain (OpenSpec.ofChange shipPagesSpec)) shipPagesCard

/-- THE TIED CARD OF 'corncriblaw13.ShipBad'. -/
def shipBadCard : Claim7 := { stood := { row := shipBadRow, standIns := [], harness := (true, "5316732fa157376e9e027248f401d8308bb3856db627641326fd81d1c8d9a197"), looks := true }, kinds := [], alts := [], laidByText := true, laidKinds := [.data, .data, .data], laidTests := true, laidLooks := .later }
def ShipBadCardSaid : Prop := Claim7.holds Tryz.pinned (.plain (OpenSpec.ofChange shipBadSpec)) shipBadCard

/-- THE TIED CARD OF 'corncriblaw13.ShipLays'. -/
def shipLaysCard : Claim7 := { stood := { row := shipLaysRow, standIns := [], harness := (true, "5316732fa157376e9e027248f401d8308bb3856db627641326fd81d1c8d9a197"), looks := true }, kinds := [], alts := [], laidByText := true, laidKinds := [.data, .data, .data], laidTests := true, laidLooks := .later }
def ShipLaysCardSaid : Prop := Claim7.holds Tryz.pinned (.plain (OpenSpec.ofChange shipLaysSpec)) shipLaysCard

/-- THE TIED CARD OF 'corncriblaw13.ShipAll'. -/
def shipAllCard : Claim7 := { stood := { row := shipAllRow, standIns := [], harness := (true, "5316732fa157376e9e027248f401d8308bb3856db627641326fd81d1c8d9a197"), looks := true }, kinds := [], alts := [], laidByText := true, laidKinds := [.data, .data, .data], laidTests := true, laidLooks := .later }
def ShipAllCardSaid : Prop := Claim7.holds Tryz.pinned (.plain (OpenSpec.ofChange shipAllSpec)) shipAllCard

/-- THE TIED CARD OF 'corncriblaw13.ShipBoth'. -/
def shipBothCard : Claim7 := { stood := { row := shipBothRow, standIns := [], harness := (true, "5316732fa157376e9e027248f401d8308bb3856db627641326fd81d1c8d9a197"), looks := true }, kinds := [], alts := [], laidByText := true, laidKinds := [.data, .data, .data], laidTests := true, laidLooks := .later }
def ShipBothCardSaid : Prop := Claim7.holds Tryz.pinned (.plain (OpenSpec.ofChange shipBothSpec)) shipBothCard

/-- THE SECOND FORM's CARD OF 'corncriblaw13.ShipTakes'. -/
def shipTakesUptoCard : Claim7 := { stood := { row := shipTakesUptoRow, standIns := [], harness := (true, "5316732fa157376e9e027248f401d8308bb3856db627641326fd81d1c8d9a197"), looks := true }, kinds := [], alts := [], laidByText := true, laidKinds := [.data, .data, .data], laidTests := true, laidLooks := .later }
def ShipTakesUptoCardSaid : Prop := Claim7.holds Tryz.pinned (.plain (OpenSpec.upto shipTakesSpec)) shipTakesUptoCard

/-- THE SECOND FORM's CARD OF 'corncriblaw13.ShipPages'. -/
def shipPagesUptoCard : Claim7 := { stood := { row := shipPagesUptoRow, standIns := [], harness := (true, "5316732fa157376e9e027248f401d8308bb3856db627641326fd81d1c8d9a197"), looks := true }, kinds := [], alts := [], laidByText := true, laidKinds := [.data, .data, .data], laidTests := true, laidLooks := .later }
def ShipPagesUptoCardSaid : Prop := Claim7.holds Tryz.pinned (.plain (OpenSpec.upto shipPagesSpec)) shipPagesUptoCard

/-- THE SECOND FORM's CARD OF 'corncriblaw13.ShipBad'. -/
def shipBadUptoCard : Claim7 := { stood := { row := shipBadUptoRow, standIns := [], harness := (true, "5316732fa157376e9e027248f401d8308bb3856db627641326fd81d1c8d9a197"), looks := true }, kinds := [], alts := [], laidByText := true, laidKinds := [.data, .data, .data], laidTests := true, laidLooks := .later }
def ShipBadUptoCardSaid : Prop := Claim7.holds Tryz.pinned (.plain (OpenSpec.upto shipBadSpec)) shipBadUptoCard

/-- THE SECOND FORM's CARD OF 'corncriblaw13.ShipLays'. -/
def shipLaysUptoCard : Claim7 := { stood := { row := shipLaysUptoRow, standIns := [], harness := (true, "5316732fa157376e9e027248f401d8308bb3856db627641326fd81d1c8d9a197"), looks := true }, kinds := [], alts := [], laidByText := true, laidKinds := [.data, .data, .data], laidTests := true, laidLooks := .later }
def ShipLaysUptoCardSaid : Prop := Claim7.holds Tryz.pinned (.plain (OpenSpec.upto shipLaysSpec)) shipLaysUptoCard

/-- THE SECOND FORM's CARD OF 'corncriblaw13.ShipAll'. -/
def shipAllUptoCard : Claim7 := { stood := { row := shipAllUptoRow, standIns := [], harness := (true, "5316732fa157376e9e027248f401d8308bb3856db627641326fd81d1c8d9a197"), looks := true }, kinds := [], alts := [], laidByText := true, laidKinds := [.data, .data, .data], laidTests := true, laidLooks := .later }
def ShipAllUptoCardSaid : Prop := Claim7.holds Tryz.pinned (.plain (OpenSpec.upto shipAllSpec)) shipAllUptoCard

/-- THE SECOND FORM's CARD OF 'corncriblaw13.ShipBoth'. -/
def shipBothUptoCard : Claim7 := { stood := { row := shipBothUptoRow, standIns := [], harness := (true, "5316732fa157376e9e027248f401d8308bb3856db627641326fd81d1c8d9a197"), looks := true }, kinds := [], alts := [], laidByText := true, laidKinds := [.data, .data, .data], laidTests := true, laidLooks := .later }
def ShipBothUptoCardSaid : Prop := Claim7.holds Tryz.pinned (.plain (OpenSpec.upto shipBothSpec)) shipBothUptoCard
end Rows
end Go.Proofs.YtmaalbbclldnpaaGreatDoor
