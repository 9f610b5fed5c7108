/-
  DERIVED. GIVEN WITH THE SEED: THE CARDS: each row of YtnhangmcnciffaaGreatDoorRows.lean that lists a variable, with what it lists TIED to the program's text (the seventh form; the later family's looks); each row that meets fmt, with fmt's text TOLD by the authors' own Lean function (tested against real Go, not proved from fmt's source: count such statements apart). THE CARD IS WHAT COUNTS. Prove the row's statement (the work); the ties are given (YtnhangmcnciffaaGreatDoorTie.lean); close each card by the builder's one call (the guide's Derived/Test/ToyasCard.lean, 'card_holds'). Laid BY PROGRAM, IN A SANDBOX (cutbox-door.mjs). By AI agents, Wed Nov 11 2026. No macro, syntax, notation, axiom, sorry.
-/
import Derived.Test.YtnhangmcnciffaaGreatDoorRows
import GoSem.ClaimSeven
namespace Go.Proofs.YtnhangmcnciffaaGreatDoor
namespace Rows

/-- THE TIED CARD OF 'corncriblaw26.StatOf'. -/
def statOfCard : Claim7 := { stood := { row := statOfRow, standIns := [], harness := (true, "686d280a07635c327a915f1616a85dc813a88238614249e621f6078ac2b305e8"), looks := true }, kinds := [], alts := [], laidByText := true, laidKinds := [.data, .data, .data], laidTests := true, laidLooks := .later }
def StatOfCardSaid : Prop := Claim7.holds Tryz.pinned (.plain (OpenSpec.ofChange statOfSpec)) statOfCard

/-- THE TIED CARD OF 'corncriblaw26.StatParts'. -/
def statPartsCard : Claim7 := { stood := { row := statPartsRow, standIns := [], harness := (true, "686d280a07635c327a915f1616a85dc813a88238614249e621f6078ac2b305e8"), looks := true }, kinds := [], alts := [], laidByText := true, laidKinds := [.data, .data, .data], laidTests := true, laidLooks := .later }
def StatPartsCardSaid : Prop := Claim7.holds Tryz.pinned (.plain (OpenSpec.ofChange statPartsSpec)) statPartsCard

/-- THE TIED CARD OF 'corncriblaw12.ScrubWork'. -/
def scrubWorkCard : Claim7 := { stood := { row := scrubWorkRow, standIns := [], harness := (true, "686d280a07635c327a915f1616a85dc813a88238614249e621f6078ac2b305e8"), looks := true }, kinds := [], alts := [], laidByText := true, laidKinds := [.data, .data, .data], laidTests := true, laidLooks := .later }
def ScrubWorkCardSaid : Prop := Claim7.holds Tryz.pinned (.plain (OpenSpec.ofChange scrubWorkSpec)) scrubWorkCard

/-- THE TIED CARD OF 'corncriblaw10.CkptNil'. -/
def ckptNilCard : Claim7 := { stood := { row := ckptNilRow, standIns := [], harness := (true, "686d280a07635c327a915f1616a85dc813a88238614249e621f6078ac2b305e8"), looks := true }, kinds := [], alts := [], laidByText := true, laidKinds := [.data, .data, .data], laidTests := true, laidLooks := .later }
def CkptNilCardSaid : Prop := Claim7.holds Tryz.pinned (.plain (OpenSpec.ofChange ckptNilSpec)) ckptNilCard

/-- THE TIED CARD OF 'corncriblaw25.MendOrder'. -/
def mendOrderCard : Claim7 := { stood := { row := mendOrderRow, standIns := [], harness := (true, "686d280a07635c327a915f1616a85dc813a88238614249e621f6078ac2b305e8"), looks := true }, kinds := [], alts := [], laidByText := true, laidKinds := [.data, .data, .data], laidTests := true, laidLooks := .later }
def MendOrderCardSaid : Prop := Claim7.holds Tryz.pinned (.plain (OpenSpec.ofChange mendOrderSpec)) mendOrderCard

/-- THE TIED CARD OF 'corncriblaw26.StatOrder'. -/
def statOrderCard : Claim7 := { stood := { row := statOrderRow, standIns := [], harness := (true, "686d280a07635c327a915f1616a85dc813a88238614249e621f6078ac2b305e8"), looks := true }, kinds := [], alts := [], laidByText := true, laidKinds := [.data, .data, .data], laidTests := true, laidLooks := .later }
def StatOrderCardSaid : Prop := Claim7.holds Tryz.pinned (.plain (OpenSpec.ofChange statOrderSpec)) statOrderCard

/-- THE SECOND FORM's CARD OF 'corncriblaw26.StatOf'. -/
def statOfUptoCard : Claim7 := { stood := { row := statOfUptoRow, standIns := [], harness := (true, "686d280a07635c327a915f1616a85dc813a88238614249e621f6078ac2b305e8"), looks := true }, kinds := [], alts := [], laidByText := true, laidKinds := [.data, .data, .data], laidTests := true, laidLooks := .later }
def StatOfUptoCardSaid : Prop := Claim7.holds Tryz.pinned (.plain (OpenSpec.upto statOfSpec)) statOfUptoCard

/-- THE SECOND FORM's CARD OF 'corncriblaw26.StatParts'. -/
def statPartsUptoCard : Claim7 := { stood := { row := statPartsUptoRow, standIns := [], harness := (true, "686d280a07635c327a915f1616a85dc813a88238614249e621f6078ac2b305e8"), looks := true }, kinds := [], alts := [], laidByText := true, laidKinds := [.data, .data, .data], laidTests := true, laidLooks := .later }
def StatPartsUptoCardSaid : Prop := Claim7.holds Tryz.pinned (.plain (OpenSpec.upto statPartsSpec)) statPartsUptoCard

/-- THE SECOND FORM's CARD OF 'corncriblaw12.ScrubWork'. -/
def scrubWorkUptoCard : Claim7 := { stood := { row := scrubWorkUptoRow, standIns := [], harness := (true, "686d280a07635c327a915f1616a85dc813a88238614249e621f6078ac2b305e8"), looks := true }, kinds := [], alts := [], laidByText := true, laidKinds := [.data, .data, .data], laidTests := true, laidLooks := .later }
def ScrubWorkUptoCardSaid : Prop := Claim7.holds Tryz.pinned (.plain (OpenSpec.upto scrubWorkSpec)) scrubWorkUptoCard

/-- THE SECOND FORM's CARD OF 'corncriblaw10.CkptNil'. -/
def ckptNilUptoCard : Claim7 := { stood := { row := ckptNilUptoRow, standIns := [], harness := (true, "686d280a07635c327a915f1616a85dc813a88238614249e621f6078ac2b305e8"), looks := true }, kinds := [], alts := [], laidByText := true, laidKinds := [.data, .data, .data], laidTests := true, laidLooks := .later }
def CkptNilUptoCardSaid : Prop := Claim7.holds Tryz.pinned (.plain (OpenSpec.upto ckptNilSpec)) ckptNilUptoCard

/-- THE SECOND FORM's CARD OF 'corncriblaw25.MendOrder'. -/
def mendOrderUptoCard : Claim7 := { stood := { row := mendOrderUptoRow, standIns := [], harness := (true, "686d280a07635c327a915f1616a85dc813a88238614249e621f6078ac2b305e8"), looks := true }, kinds := [], alts := [], laidByText := true, laidKinds := [.data, .data, .data], laidTests := true, laidLooks := .later }
def MendOrderUptoCardSaid : Prop := Claim7.holds Tryz.pinned (.plain (OpenSpec.upto mendOrderSpec)) mendOrderUptoCard

/-- THE SECOND FORM's CARD OF 'corncriblaw26.StatOrder'. -/
def statOrderUptoCard : Claim7 := { stood := { row := statOrderUptoRow, standIns := [], harness := (true, "686d280a07635c327a915f1616a85dc813a88238614249e621f6078ac2b305e8"), looks := true }, kinds := [], alts := [], laidByText := true, laidKinds := [.data, .data, .data], laidTests := true, laidLooks := .later }
def StatOrderUptoCardSaid : Prop := Claim7.holds Tryz.pinned (.plain (OpenSpec.upto statOrderSpec)) statOrderUptoCard
end Rows
end Go.Proofs.YtnhangmcnciffaaGreatDoor
