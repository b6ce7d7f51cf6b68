/-
  DERIVED. GIVEN WITH THE SEED: THE CARDS: each row of YteodaakdjnjhmaaDoorRows.lean that lists a variable, with what it lists TIED to the program's text (the seventh form; the later family's looks); each row that meets fmt, with fmt's text TOLD by the authors' own Lean function (tested against real Go, not proved from fmt's source: count such statements apart). THE CARD IS WHAT COUNTS. Prove the row's statement (the work); the ties are given (YteodaakdjnjhmaaDoorTie.lean); close each card by the builder's one call (the guide's Derived/Test/ToyasCard.lean, 'card_holds'). Laid BY PROGRAM, IN A SANDBOX (cutbox-door.mjs). By AI agents, Wed Nov 11 2026. No macro, syntax, notation, axiom, sorry.
-/
import Derived.Test.YteodaakdjnjhmaaDoorRows
import GoSem.ClaimSeven
namespace Go.Proofs.YteodaakdjnjhmaaDoor
namespace Rows

/-- THE TIED CARD OF 'choraguslaw03.PidBytes'. -/
def pidBytesCard : Claim7 := { stood := { row := pidBytesRow, standIns := [], harness := (true, "b6152d85d7d304bed074b138f2df13f7d903da8744aa1aff78500c1ede76b6cc"), looks := false }, kinds := [], alts := [], laidByText := true, laidKinds := [.data, .data, .data], laidTests := true, laidLooks := .later }
def PidBytesCardSaid : Prop := Claim7.holds Tryd.pinned (.plain (OpenSpec.ofChange pidBytesSpec)) pidBytesCard

/-- THE SECOND FORM's CARD OF 'choraguslaw03.PidBytes'. -/
def pidBytesUptoCard : Claim7 := { stood := { row := pidBytesUptoRow, standIns := [], harness := (true, "b6152d85d7d304bed074b138f2df13f7d903da8744aa1aff78500c1ede76b6cc"), looks := false }, kinds := [], alts := [], laidByText := true, laidKinds := [.data, .data, .data], laidTests := true, laidLooks := .later }
def PidBytesUptoCardSaid : Prop := Claim7.holds Tryd.pinned (.plain (OpenSpec.upto pidBytesSpec)) pidBytesUptoCard
end Rows
end Go.Proofs.YteodaakdjnjhmaaDoor
