/-
  DERIVED. GIVEN WITH THE SEED: THE CARDS: each row of YtppapeoainafbaaGreatDoorRows.lean that lists a variable, with what it lists TIED to the program's text (the seventh form; the later family's looks); each row that meets fmt, with fmt's text TOLD by the authors' own Lean function (tested against real Go, not proved from fmt's source: count such statements apart). THE CARD IS WHAT COUNTS. Prove the row's statement (the work); the ties are given (YtppapeoainafbaaGreatDoorTie.lean); close each card by the builder's one call (the guide's Derived/Test/ToyasCard.lean, 'card_holds'). Laid BY PROGRAM, IN A SANDBOX (cutbox-door.mjs). By AI agents, Wed Nov 11 2026. No macro, syntax, notation, axiom, sorry.
-/
import Derived.Test.YtppapeoainafbaaGreatDoorRows
import GoSem.ClaimSeven
namespace Go.Proofs.YtppapeoainafbaaGreatDoor
namespace Rows

/-- THE TIED CARD OF 'choraguslaw10.MsgTexts'. -/
def msgTextsCard : Claim7 := { stood := { row := msgTextsRow, standIns := [], harness := (true, "09678d749b82bb03aa02c1b86860d530e5e290bce4cc98f9b322b8c85ebf3080"), looks := true }, kinds := [], alts := [], laidByText := true, laidKinds := [.data, .data, .data], laidTests := true, laidLooks := .later }
def MsgTextsCardSaid : Prop := Claim7.holds Tryz.pinned (.plain (OpenSpec.ofChange msgTextsSpec)) msgTextsCard

/-- THE TIED CARD OF 'choraguslaw08.ViewTexts'. -/
def viewTextsCard : Claim7 := { stood := { row := viewTextsRow, standIns := [], harness := (true, "09678d749b82bb03aa02c1b86860d530e5e290bce4cc98f9b322b8c85ebf3080"), looks := true }, kinds := [], alts := [], laidByText := true, laidKinds := [.data, .data, .data, .data, .sentinel, .sentinel, .pinned], laidTests := true, laidLooks := .later }
def ViewTextsCardSaid : Prop := Claim7.holds Tryz.pinned (.plain (OpenSpec.ofChange viewTextsSpec)) viewTextsCard

/-- THE SECOND FORM's CARD OF 'choraguslaw10.MsgTexts'. -/
def msgTextsUptoCard : Claim7 := { stood := { row := msgTextsUptoRow, standIns := [], harness := (true, "09678d749b82bb03aa02c1b86860d530e5e290bce4cc98f9b322b8c85ebf3080"), looks := true }, kinds := [], alts := [], laidByText := true, laidKinds := [.data, .data, .data], laidTests := true, laidLooks := .later }
def MsgTextsUptoCardSaid : Prop := Claim7.holds Tryz.pinned (.plain (OpenSpec.upto msgTextsSpec)) msgTextsUptoCard

/-- THE SECOND FORM's CARD OF 'choraguslaw08.ViewTexts'. -/
def viewTextsUptoCard : Claim7 := { stood := { row := viewTextsUptoRow, standIns := [], harness := (true, "09678d749b82bb03aa02c1b86860d530e5e290bce4cc98f9b322b8c85ebf3080"), looks := true }, kinds := [], alts := [], laidByText := true, laidKinds := [.data, .data, .data, .data, .sentinel, .sentinel, .pinned], laidTests := true, laidLooks := .later }
def ViewTextsUptoCardSaid : Prop := Claim7.holds Tryz.pinned (.plain (OpenSpec.upto viewTextsSpec)) viewTextsUptoCard
end Rows
end Go.Proofs.YtppapeoainafbaaGreatDoor
