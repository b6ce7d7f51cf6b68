/-
  DERIVED. GIVEN WITH THE SEED: THE CARDS: each row of YtjjahefedpfnaaaDoorRows.lean that lists a variable, with what it lists TIED to the program's text (the seventh form; the later family's looks); each row that meets fmt, with fmt's text TOLD by the authors' own Lean function (tested against real Go, not proved from fmt's source: count such statements apart). THE CARD IS WHAT COUNTS. Prove the row's statement (the work); the ties are given (YtjjahefedpfnaaaDoorTie.lean); close each card by the builder's one call (the guide's Derived/Test/ToyasCard.lean, 'card_holds'). Laid BY PROGRAM, IN A SANDBOX (cutbox-door.mjs). By AI agents, Wed Nov 11 2026. No macro, syntax, notation, axiom, sorry.
-/
import Derived.Test.YtjjahefedpfnaaaDoorRows
import GoSem.ClaimSeven
namespace Go.Proofs.YtjjahefedpfnaaaDoor
namespace Rows

/-- THE TIED CARD OF 'choraguslaw03.PidSorts'. -/
def pidSortsCard : Claim7 := { stood := { row := pidSortsRow, standIns := [], harness := (true, "afaede0f21ebb8af5a227e107a8ac19c9333c2a7a90cc5d9e97da76d1bd60b19"), looks := false }, kinds := [], alts := [], laidByText := true, laidKinds := [.data, .data, .data], laidTests := true, laidLooks := .later }
def PidSortsCardSaid : Prop := Claim7.holds Tryd.pinned (.plain (OpenSpec.ofChange pidSortsSpec)) pidSortsCard

/-- THE SECOND FORM's CARD OF 'choraguslaw03.PidSorts'. -/
def pidSortsUptoCard : Claim7 := { stood := { row := pidSortsUptoRow, standIns := [], harness := (true, "afaede0f21ebb8af5a227e107a8ac19c9333c2a7a90cc5d9e97da76d1bd60b19"), looks := false }, kinds := [], alts := [], laidByText := true, laidKinds := [.data, .data, .data], laidTests := true, laidLooks := .later }
def PidSortsUptoCardSaid : Prop := Claim7.holds Tryd.pinned (.plain (OpenSpec.upto pidSortsSpec)) pidSortsUptoCard
end Rows
end Go.Proofs.YtjjahefedpfnaaaDoor
