/-
  DERIVED. GIVEN WITH THE SEED: THE CARDS: each row of YtmkhacgdejkimaaGreatDoorRows.lean that lists a variable, with what it lists TIED to the program's text (the seventh form; the later family's looks); each row that meets fmt, with fmt's text TOLD by the authors' own Lean function (tested against real Go, not proved from fmt's source: count such statements apart). THE CARD IS WHAT COUNTS. Prove the row's statement (the work); the ties are given (YtmkhacgdejkimaaGreatDoorTie.lean); close each card by the builder's one call (the guide's Derived/Test/ToyasCard.lean, 'card_holds'). Laid BY PROGRAM, IN A SANDBOX (cutbox-door.mjs). By AI agents, Wed Nov 11 2026. No macro, syntax, notation, axiom, sorry.
-/
import Derived.Test.YtmkhacgdejkimaaGreatDoorRows
import GoSem.ClaimSeven
namespace Go.Proofs.YtmkhacgdejkimaaGreatDoor
namespace Rows

/-- THE TIED CARD OF 'corncriblaw10.CkptNil'. -/
def ckptNilCard : Claim7 := { stood := { row := ckptNilRow, standIns := [], harness := (true, "f27b2067dbf9acf817e2fab51cab0a0e78d32e5cb94136ee49ca7b622e6264cf"), looks := true }, kinds := [], alts := [], laidByText := true, laidKinds := [.data, .data, .data], laidTests := true, laidLooks := .later }
def CkptNilCardSaid : Prop := Claim7.holds Tryz.pinned (.plain (OpenSpec.ofChange ckptNilSpec)) ckptNilCard

/-- THE TIED CARD OF 'corncriblaw25.MendOrder'. -/
def mendOrderCard : Claim7 := { stood := { row := mendOrderRow, standIns := [], harness := (true, "f27b2067dbf9acf817e2fab51cab0a0e78d32e5cb94136ee49ca7b622e6264cf"), looks := true }, kinds := [], alts := [], laidByText := true, laidKinds := [.data, .data, .data], laidTests := true, laidLooks := .later }
def MendOrderCardSaid : Prop := Claim7.holds Tryz.pinned (.plain (OpenSpec.ofChange mendOrderSpec)) mendOrderCard

/-- THE TIED CARD OF 'corncriblaw09.VolPlays'. -/
def volPlaysCard : Claim7 := { stood := { row := volPlaysRow, standIns := [], harness := (true, "f27b2067dbf9acf817e2fab51cab0a0e78d32e5cb94136ee49ca7b622e6264cf"), looks := true }, kinds := [], alts := [], laidByText := true, laidKinds := [.data, .data, .data], laidTests := true, laidLooks := .later }
def VolPlaysCardSaid : Prop := Claim7.holds Tryz.pinned (.plain (OpenSpec.ofChange volPlaysSpec)) volPlaysCard

/-- THE TIED CARD OF 'corncriblaw09.VolAgain'. -/
def volAgainCard : Claim7 := { stood := { row := volAgainRow, standIns := [], harness := (true, "f27b2067dbf9acf817e2fab51cab0a0e78d32e5cb94136ee49ca7b622e6264cf"), looks := true }, kinds := [], alts := [], laidByText := true, laidKinds := [.data, .data, .data], laidTests := true, laidLooks := .later }
def VolAgainCardSaid : Prop := Claim7.holds Tryz.pinned (.plain (OpenSpec.ofChange volAgainSpec)) volAgainCard

/-- THE TIED CARD OF 'corncriblaw09.VolGrows'. -/
def volGrowsCard : Claim7 := { stood := { row := volGrowsRow, standIns := [], harness := (true, "f27b2067dbf9acf817e2fab51cab0a0e78d32e5cb94136ee49ca7b622e6264cf"), looks := true }, kinds := [], alts := [], laidByText := true, laidKinds := [.data, .data, .data], laidTests := true, laidLooks := .later }
def VolGrowsCardSaid : Prop := Claim7.holds Tryz.pinned (.plain (OpenSpec.ofChange volGrowsSpec)) volGrowsCard

/-- THE TIED CARD OF 'corncriblaw09.VolLasts'. -/
def volLastsCard : Claim7 := { stood := { row := volLastsRow, standIns := [], harness := (true, "f27b2067dbf9acf817e2fab51cab0a0e78d32e5cb94136ee49ca7b622e6264cf"), looks := true }, kinds := [], alts := [], laidByText := true, laidKinds := [.data, .data, .data], laidTests := true, laidLooks := .later }
def VolLastsCardSaid : Prop := Claim7.holds Tryz.pinned (.plain (OpenSpec.ofChange volLastsSpec)) volLastsCard

/-- THE SECOND FORM's CARD OF 'corncriblaw10.CkptNil'. -/
def ckptNilUptoCard : Claim7 := { stood := { row := ckptNilUptoRow, standIns := [], harness := (true, "f27b2067dbf9acf817e2fab51cab0a0e78d32e5cb94136ee49ca7b622e6264cf"), looks := true }, kinds := [], alts := [], laidByText := true, laidKinds := [.data, .data, .data], laidTests := true, laidLooks := .later }
def CkptNilUptoCardSaid : Prop := Claim7.holds Tryz.pinned (.plain (OpenSpec.upto ckptNilSpec)) ckptNilUptoCard

/-- THE SECOND FORM's CARD OF 'corncriblaw25.MendOrder'. -/
def mendOrderUptoCard : Claim7 := { stood := { row := mendOrderUptoRow, standIns := [], harness := (true, "f27b2067dbf9acf817e2fab51cab0a0e78d32e5cb94136ee49ca7b622e6264cf"), looks := true }, kinds := [], alts := [], laidByText := true, laidKinds := [.data, .data, .data], laidTests := true, laidLooks := .later }
def MendOrderUptoCardSaid : Prop := Claim7.holds Tryz.pinned (.plain (OpenSpec.upto mendOrderSpec)) mendOrderUptoCard

/-- THE SECOND FORM's CARD OF 'corncriblaw09.VolPlays'. -/
def volPlaysUptoCard : Claim7 := { stood := { row := volPlaysUptoRow, standIns := [], harness := (true, "f27b2067dbf9acf817e2fab51cab0a0e78d32e5cb94136ee49ca7b622e6264cf"), looks := true }, kinds := [], alts := [], laidByText := true, laidKinds := [.data, .data, .data], laidTests := true, laidLooks := .later }
def VolPlaysUptoCardSaid : Prop := Claim7.holds Tryz.pinned (.plain (OpenSpec.upto volPlaysSpec)) volPlaysUptoCard

/-- THE SECOND FORM's CARD OF 'corncriblaw09.VolAgain'. -/
def volAgainUptoCard : Claim7 := { stood := { row := volAgainUptoRow, standIns := [], harness := (true, "f27b2067dbf9acf817e2fab51cab0a0e78d32e5cb94136ee49ca7b622e6264cf"), looks := true }, kinds := [], alts := [], laidByText := true, laidKinds := [.data, .data, .data], laidTests := true, laidLooks := .later }
def VolAgainUptoCardSaid : Prop := Claim7.holds Tryz.pinned (.plain (OpenSpec.upto volAgainSpec)) volAgainUptoCard

/-- THE SECOND FORM's CARD OF 'corncriblaw09.VolGrows'. -/
def volGrowsUptoCard : Claim7 := { stood := { row := volGrowsUptoRow, standIns := [], harness := (true, "f27b2067dbf9acf817e2fab51cab0a0e78d32e5cb94136ee49ca7b622e6264cf"), looks := true }, kinds := [], alts := [], laidByText := true, laidKinds := [.data, .data, .data], laidTests := true, laidLooks := .later }
def VolGrowsUptoCardSaid : Prop := Claim7.holds Tryz.pinned (.plain (OpenSpec.upto volGrowsSpec)) volGrowsUptoCard

/-- THE SECOND FORM's CARD OF 'corncriblaw09.VolLasts'. -/
def volLastsUptoCard : Claim7 := { stood := { row := volLastsUptoRow, standIns := [], harness := (true, "f27b2067dbf9acf817e2fab51cab0a0e78d32e5cb94136ee49ca7b622e6264cf"), looks := true }, kinds := [], alts := [], laidByText := true, laidKinds := [.data, .data, .data], laidTests := true, laidLooks := .later }
def VolLastsUptoCardSaid : Prop := Claim7.holds Tryz.pinned (.plain (OpenSpec.upto volLastsSpec)) volLastsUptoCard
end Rows
end Go.Proofs.YtmkhacgdejkimaaGreatDoor
