/-
  DERIVED. GIVEN WITH THE SEED: THE CARDS: each row of YtppapeoainafbaaDoorRows.lean that lists a variable, with what it lists TIED to the program's text (the seventh form; the later family's looks); each row that meets fmt, with fmt's text TOLD by the authors' own Lean function (tested against real Go, not proved from fmt's source: count such statements apart). THE CARD IS WHAT COUNTS. Prove the row's statement (the work); the ties are given (YtppapeoainafbaaDoorTie.lean); close each card by the builder's one call (the guide's Derived/Test/ToyasCard.lean, 'card_holds'). Laid BY PROGRAM, IN A SANDBOX (cutbox-door.mjs). By AI agents, Wed Nov 11 2026. No macro, syntax, notation, axiom, sorry.
-/
import Derived.Test.YtppapeoainafbaaDoorRows
import GoSem.ClaimSeven
namespace Go.Proofs.YtppapeoainafbaaDoor
namespace Rows

/-- THE TIED CARD OF 'choraguslaw03.PidTexts'. -/
def pidTextsCard : Claim7 := { stood := { row := pidTextsRow, standIns := [], harness := (true, "94af0f06097cc39146f7c65dfe62f2cf199f1b86271b1a16373aac0290aeb013"), looks := true }, kinds := [], alts := [], laidByText := true, laidKinds := [.data, .data, .data, .sentinel, .sentinel], laidTests := true, laidLooks := .later }
def PidTextsCardSaid : Prop := Claim7.holds Tryd.pinned (.plain (OpenSpec.ofChange pidTextsSpec)) pidTextsCard

/-- THE TIED CARD OF 'choraguslaw09.CmdTexts'. -/
def cmdTextsCard : Claim7 := { stood := { row := cmdTextsRow, standIns := [], harness := (true, "94af0f06097cc39146f7c65dfe62f2cf199f1b86271b1a16373aac0290aeb013"), looks := true }, kinds := [], alts := [], laidByText := true, laidKinds := [.data, .data, .data], laidTests := true, laidLooks := .later }
def CmdTextsCardSaid : Prop := Claim7.holds Tryd.pinned (.plain (OpenSpec.ofChange cmdTextsSpec)) cmdTextsCard

/-- THE SECOND FORM's CARD OF 'choraguslaw03.PidTexts'. -/
def pidTextsUptoCard : Claim7 := { stood := { row := pidTextsUptoRow, standIns := [], harness := (true, "94af0f06097cc39146f7c65dfe62f2cf199f1b86271b1a16373aac0290aeb013"), looks := true }, kinds := [], alts := [], laidByText := true, laidKinds := [.data, .data, .data, .sentinel, .sentinel], laidTests := true, laidLooks := .later }
def PidTextsUptoCardSaid : Prop := Claim7.holds Tryd.pinned (.plain (OpenSpec.upto pidTextsSpec)) pidTextsUptoCard

/-- THE SECOND FORM's CARD OF 'choraguslaw09.CmdTexts'. -/
def cmdTextsUptoCard : Claim7 := { stood := { row := cmdTextsUptoRow, standIns := [], harness := (true, "94af0f06097cc39146f7c65dfe62f2cf199f1b86271b1a16373aac0290aeb013"), looks := true }, kinds := [], alts := [], laidByText := true, laidKinds := [.data, .data, .data], laidTests := true, laidLooks := .later }
def CmdTextsUptoCardSaid : Prop := Claim7.holds Tryd.pinned (.plain (OpenSpec.upto cmdTextsSpec)) cmdTextsUptoCard
end Rows
end Go.Proofs.YtppapeoainafbaaDoor
