/-
  DERIVED. GIVEN WITH THE SEED: THE CARDS: each row of YtfpjfoajonbndaaGreatDoorRows.lean that lists a variable, with what it lists TIED to the program's text (the seventh form; the later family's looks); each row that meets fmt, with fmt's text TOLD by the authors' own Lean function (tested against real Go, not proved from fmt's source: count such statements apart). THE CARD IS WHAT COUNTS. Prove the row's statement (the work); the ties are given (YtfpjfoajonbndaaGreatDoorTie.lean); close each card by the builder's one call (the guide's Derived/Test/ToyasCard.lean, 'card_holds'). Laid BY PROGRAM, IN A SANDBOX (cutbox-door.mjs). By AI agents, Wed Nov 11 2026. No macro, syntax, notation, axiom, sorry.
-/
import Derived.Test.YtfpjfoajonbndaaGreatDoorRows
import GoSem.ClaimSeven
namespace Go.Proofs.YtfpjfoajonbndaaGreatDoor
namespace Rows

/-- THE TIED CARD OF 'corncriblaw09.VolPlays'. -/
def volPlaysCard : Claim7 := { stood := { row := volPlaysRow, standIns := [], harness := (true, "62f54c3106a1bea6acc2bb150839a167351649fd5d335033e836f2b263c0bccd"), looks := true }, kinds := [], alts := [], laidByText := true, laidKinds := [.data, .data, .data], laidTests := true, laidLooks := .later }
def VolPlaysCardSaid : Prop := Claim7.holds Tryz.pinned (.plain (OpenSpec.ofChange volPlaysSpec)) volPlaysCard

/-- THE TIED CARD OF 'corncriblaw10.CkptAgain'. -/
def ckptAgainCard : Claim7 := { stood := { row := ckptAgainRow, standIns := [], harness := (true, "62f54c3106a1bea6acc2bb150839a167351649fd5d335033e836f2b263c0bccd"), looks := true }, kinds := [], alts := [], laidByText := true, laidKinds := [.data, .data, .data], laidTests := true, laidLooks := .later }
def CkptAgainCardSaid : Prop := Claim7.holds Tryz.pinned (.plain (OpenSpec.ofChange ckptAgainSpec)) ckptAgainCard

/-- THE TIED CARD OF 'corncriblaw10.CkptSteps'. -/
def ckptStepsCard : Claim7 := { stood := { row := ckptStepsRow, standIns := [], harness := (true, "62f54c3106a1bea6acc2bb150839a167351649fd5d335033e836f2b263c0bccd"), looks := true }, kinds := [], alts := [], laidByText := true, laidKinds := [.data, .data, .data], laidTests := true, laidLooks := .later }
def CkptStepsCardSaid : Prop := Claim7.holds Tryz.pinned (.plain (OpenSpec.ofChange ckptStepsSpec)) ckptStepsCard

/-- THE TIED CARD OF 'corncriblaw10.CkptWrites'. -/
def ckptWritesCard : Claim7 := { stood := { row := ckptWritesRow, standIns := [], harness := (true, "62f54c3106a1bea6acc2bb150839a167351649fd5d335033e836f2b263c0bccd"), looks := true }, kinds := [], alts := [], laidByText := true, laidKinds := [.data, .data, .data], laidTests := true, laidLooks := .later }
def CkptWritesCardSaid : Prop := Claim7.holds Tryz.pinned (.plain (OpenSpec.ofChange ckptWritesSpec)) ckptWritesCard

/-- THE TIED CARD OF 'corncriblaw10.CkptCrashes'. -/
def ckptCrashesCard : Claim7 := { stood := { row := ckptCrashesRow, standIns := [], harness := (true, "62f54c3106a1bea6acc2bb150839a167351649fd5d335033e836f2b263c0bccd"), looks := true }, kinds := [], alts := [], laidByText := true, laidKinds := [.data, .data, .data], laidTests := true, laidLooks := .later }
def CkptCrashesCardSaid : Prop := Claim7.holds Tryz.pinned (.plain (OpenSpec.ofChange ckptCrashesSpec)) ckptCrashesCard

/-- THE TIED CARD OF 'corncriblaw10.CkptHelps'. -/
def ckptHelpsCard : Claim7 := { stood := { row := ckptHelpsRow, standIns := [], harness := (true, "62f54c3106a1bea6acc2bb150839a167351649fd5d335033e836f2b263c0bccd"), looks := true }, kinds := [], alts := [], laidByText := true, laidKinds := [.data, .data, .data], laidTests := true, laidLooks := .later }
def CkptHelpsCardSaid : Prop := Claim7.holds Tryz.pinned (.plain (OpenSpec.ofChange ckptHelpsSpec)) ckptHelpsCard

/-- THE SECOND FORM's CARD OF 'corncriblaw09.VolPlays'. -/
def volPlaysUptoCard : Claim7 := { stood := { row := volPlaysUptoRow, standIns := [], harness := (true, "62f54c3106a1bea6acc2bb150839a167351649fd5d335033e836f2b263c0bccd"), looks := true }, kinds := [], alts := [], laidByText := true, laidKinds := [.data, .data, .data], laidTests := true, laidLooks := .later }
def VolPlaysUptoCardSaid : Prop := Claim7.holds Tryz.pinned (.plain (OpenSpec.upto volPlaysSpec)) volPlaysUptoCard

/-- THE SECOND FORM's CARD OF 'corncriblaw10.CkptAgain'. -/
def ckptAgainUptoCard : Claim7 := { stood := { row := ckptAgainUptoRow, standIns := [], harness := (true, "62f54c3106a1bea6acc2bb150839a167351649fd5d335033e836f2b263c0bccd"), looks := true }, kinds := [], alts := [], laidByText := true, laidKinds := [.data, .data, .data], laidTests := true, laidLooks := .later }
def CkptAgainUptoCardSaid : Prop := Claim7.holds Tryz.pinned (.plain (OpenSpec.upto ckptAgainSpec)) ckptAgainUptoCard

/-- THE SECOND FORM's CARD OF 'corncriblaw10.CkptSteps'. -/
def ckptStepsUptoCard : Claim7 := { stood := { row := ckptStepsUptoRow, standIns := [], harness := (true, "62f54c3106a1bea6acc2bb150839a167351649fd5d335033e836f2b263c0bccd"), looks := true }, kinds := [], alts := [], laidByText := true, laidKinds := [.data, .data, .data], laidTests := true, laidLooks := .later }
def CkptStepsUptoCardSaid : Prop := Claim7.holds Tryz.pinned (.plain (OpenSpec.upto ckptStepsSpec)) ckptStepsUptoCard

/-- THE SECOND FORM's CARD OF 'corncriblaw10.CkptWrites'. -/
def ckptWritesUptoCard : Claim7 := { stood := { row := ckptWritesUptoRow, standIns := [], harness := (true, "62f54c3106a1bea6acc2bb150839a167351649fd5d335033e836f2b263c0bccd"), looks := true }, kinds := [], alts := [], laidByText := true, laidKinds := [.data, .data, .data], laidTests := true, laidLooks := .later }
def CkptWritesUptoCardSaid : Prop := Claim7.holds Tryz.pinned (.plain (OpenSpec.upto ckptWritesSpec)) ckptWritesUptoCard

/-- THE SECOND FORM's CARD OF 'corncriblaw10.CkptCrashes'. -/
def ckptCrashesUptoCard : Claim7 := { stood := { row := ckptCrashesUptoRow, standIns := [], harness := (true, "62f54c3106a1bea6acc2bb150839a167351649fd5d335033e836f2b263c0bccd"), looks := true }, kinds := [], alts := [], laidByText := true, laidKinds := [.data, .data, .data], laidTests := true, laidLooks := .later }
def CkptCrashesUptoCardSaid : Prop := Claim7.holds Tryz.pinned (.plain (OpenSpec.upto ckptCrashesSpec)) ckptCrashesUptoCard

/-- THE SECOND FORM's CARD OF 'corncriblaw10.CkptHelps'. -/
def ckptHelpsUptoCard : Claim7 := { stood := { row := ckptHelpsUptoRow, standIns := [], harness := (true, "62f54c3106a1bea6acc2bb150839a167351649fd5d335033e836f2b263c0bccd"), looks := true }, kinds := [], alts := [], laidByText := true, laidKinds := [.data, .data, .data], laidTests := true, laidLooks := .later }
def CkptHelpsUptoCardSaid : Prop := Claim7.holds Tryz.pinned (.plain (OpenSpec.upto ckptHelpsSpec)) ckptHelpsUptoCard
end Rows
end Go.Proofs.YtfpjfoajonbndaaGreatDoor
