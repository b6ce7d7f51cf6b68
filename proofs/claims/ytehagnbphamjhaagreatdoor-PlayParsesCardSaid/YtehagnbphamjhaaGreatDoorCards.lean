/-
  DERIVED. GIVEN WITH THE SEED: THE CARDS: each row of YtehagnbphamjhaaGreatDoorRows.lean that lists a variable, with what it lists TIED to the program's text (the seventh form; the later family's looks); each row that meets fmt, with fmt's text TOLD by the authors' own Lean function (tested against real Go, not proved from fmt's source: count such statements apart). THE CARD IS WHAT COUNTS. Prove the row's statement (the work); the ties are given (YtehagnbphamjhaaGreatDoorTie.lean); close each card by the builder's one call (the guide's Derived/Test/ToyasCard.lean, 'card_holds'). Laid BY PROGRAM, IN A SANDBOX (cutbox-door.mjs). By AI agents, Wed Nov 11 2026. No macro, syntax, notation, axiom, sorry.
-/
import Derived.Test.YtehagnbphamjhaaGreatDoorRows
import GoSem.ClaimSeven
namespace Go.Proofs.YtehagnbphamjhaaGreatDoor
namespace Rows

/-- THE TIED CARD OF 'choraguslaw30.PlayReports'. -/
def playReportsCard : Claim7 := { stood := { row := playReportsRow, standIns := [], harness := (true, "da2b24cb185f7814a18bf9ea4920a1aaf1488149ec416d87f7f1f59c3f10168d"), looks := true }, kinds := [], alts := [], laidByText := true, laidKinds := [.data, .data, .data, .data, .sentinel, .sentinel, .pinned], laidTests := true, laidLooks := .later }
def PlayReportsCardSaid : Prop := Claim7.holds Tryz.pinned (.plain (OpenSpec.ofChange playReportsSpec)) playReportsCard

/-- THE TIED CARD OF 'choraguslaw30.PlayStorms'. -/
def playStormsCard : Claim7 := { stood := { row := playStormsRow, standIns := [], harness := (true, "da2b24cb185f7814a18bf9ea4920a1aaf1488149ec416d87f7f1f59c3f10168d"), looks := true }, kinds := [], alts := [], laidByText := true, laidKinds := [.data, .data, .data, .data, .sentinel, .sentinel, .pinned], laidTests := true, laidLooks := .later }
def PlayStormsCardSaid : Prop := Claim7.holds Tryz.pinned (.plain (OpenSpec.ofChange playStormsSpec)) playStormsCard

/-- THE TIED CARD OF 'choraguslaw30.PlayParses'. -/
def playParsesCard : Claim7 := { stood := { row := playParsesRow, standIns := [], harness := (true, "da2b24cb185f7814a18bf9ea4920a1aaf1488149ec416d87f7f1f59c3f10168d"), looks := true }, kinds := [], alts := [], laidByText := true, laidKinds := [.data, .data, .data, .data, .sentinel, .sentinel, .pinned], laidTests := true, laidLooks := .later }
def PlayParsesCardSaid : Prop := Claim7.holds Tryz.pinned (.plain (OpenSpec.ofChange playParsesSpec)) playParsesCard

/-- THE TIED CARD OF 'choraguslaw30.PlayBack'. -/
def playBackCard : Claim7 := { stood := { row := playBackRow, standIns := [], harness := (true, "da2b24cb185f7814a18bf9ea4920a1aaf1488149ec416d87f7f1f59c3f10168d"), looks := true }, kinds := [], alts := [], laidByText := true, laidKinds := [.data, .data, .data, .data, .sentinel, .sentinel, .pinned], laidTests := true, laidLooks := .later }
def PlayBackCardSaid : Prop := Claim7.holds Tryz.pinned (.plain (OpenSpec.ofChange playBackSpec)) playBackCard

/-- THE TIED CARD OF 'choraguslaw30.PlayTables'. -/
def playTablesCard : Claim7 := { stood := { row := playTablesRow, standIns := [], harness := (true, "da2b24cb185f7814a18bf9ea4920a1aaf1488149ec416d87f7f1f59c3f10168d"), looks := true }, kinds := [], alts := [], laidByText := true, laidKinds := [.data, .data, .data, .data, .sentinel, .sentinel, .pinned], laidTests := true, laidLooks := .later }
def PlayTablesCardSaid : Prop := Claim7.holds Tryz.pinned (.plain (OpenSpec.ofChange playTablesSpec)) playTablesCard

/-- THE SECOND FORM's CARD OF 'choraguslaw30.PlayReports'. -/
def playReportsUptoCard : Claim7 := { stood := { row := playReportsUptoRow, standIns := [], harness := (true, "da2b24cb185f7814a18bf9ea4920a1aaf1488149ec416d87f7f1f59c3f10168d"), looks := true }, kinds := [], alts := [], laidByText := true, laidKinds := [.data, .data, .data, .data, .sentinel, .sentinel, .pinned], laidTests := true, laidLooks := .later }
def PlayReportsUptoCardSaid : Prop := Claim7.holds Tryz.pinned (.plain (OpenSpec.upto playReportsSpec)) playReportsUptoCard

/-- THE SECOND FORM's CARD OF 'choraguslaw30.PlayStorms'. -/
def playStormsUptoCard : Claim7 := { stood := { row := playStormsUptoRow, standIns := [], harness := (true, "da2b24cb185f7814a18bf9ea4920a1aaf1488149ec416d87f7f1f59c3f10168d"), looks := true }, kinds := [], alts := [], laidByText := true, laidKinds := [.data, .data, .data, .data, .sentinel, .sentinel, .pinned], laidTests := true, laidLooks := .later }
def PlayStormsUptoCardSaid : Prop := Claim7.holds Tryz.pinned (.plain (OpenSpec.upto playStormsSpec)) playStormsUptoCard

/-- THE SECOND FORM's CARD OF 'choraguslaw30.PlayParses'. -/
def playParsesUptoCard : Claim7 := { stood := { row := playParsesUptoRow, standIns := [], harness := (true, "da2b24cb185f7814a18bf9ea4920a1aaf1488149ec416d87f7f1f59c3f10168d"), looks := true }, kinds := [], alts := [], laidByText := true, laidKinds := [.data, .data, .data, .data, .sentinel, .sentinel, .pinned], laidTests := true, laidLooks := .later }
def PlayParsesUptoCardSaid : Prop := Claim7.holds Tryz.pinned (.plain (OpenSpec.upto playParsesSpec)) playParsesUptoCard

/-- THE SECOND FORM's CARD OF 'choraguslaw30.PlayBack'. -/
def playBackUptoCard : Claim7 := { stood := { row := playBackUptoRow, standIns := [], harness := (true, "da2b24cb185f7814a18bf9ea4920a1aaf1488149ec416d87f7f1f59c3f10168d"), looks := true }, kinds := [], alts := [], laidByText := true, laidKinds := [.data, .data, .data, .data, .sentinel, .sentinel, .pinned], laidTests := true, laidLooks := .later }
def PlayBackUptoCardSaid : Prop := Claim7.holds Tryz.pinned (.plain (OpenSpec.upto playBackSpec)) playBackUptoCard

/-- THE SECOND FORM's CARD OF 'choraguslaw30.PlayTables'. -/
def playTablesUptoCard : Claim7 := { stood := { row := playTablesUptoRow, standIns := [], harness := (true, "da2b24cb185f7814a18bf9ea4920a1aaf1488149ec416d87f7f1f59c3f10168d"), looks := true }, kinds := [], alts := [], laidByText := true, laidKinds := [.data, .data, .data, .data, .sentinel, .sentinel, .pinned], laidTests := true, laidLooks := .later }
def PlayTablesUptoCardSaid : Prop := Claim7.holds Tryz.pinned (.plain (OpenSpec.upto playTablesSpec)) playTablesUptoCard
end Rows
end Go.Proofs.YtehagnbphamjhaaGreatDoor
