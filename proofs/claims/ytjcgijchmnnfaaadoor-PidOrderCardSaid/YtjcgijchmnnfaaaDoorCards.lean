/-
  DERIVED. GIVEN WITH THE SEED: THE CARDS: each row of YtjcgijchmnnfaaaDoorRows.lean that lists a variable, with what it lists TIED to the program's text (the seventh form; the later family's looks); each row that meets fmt, with fmt's text TOLD by the authors' own Lean function (tested against real Go, not proved from fmt's source: count such statements apart). THE CARD IS WHAT COUNTS. Prove the row's statement (the work); the ties are given (YtjcgijchmnnfaaaDoorTie.lean); close each card by the builder's one call (the guide's Derived/Test/ToyasCard.lean, 'card_holds'). Laid BY PROGRAM, IN A SANDBOX (cutbox-door.mjs). By AI agents, Wed Nov 11 2026. No macro, syntax, notation, axiom, sorry.
-/
import Derived.Test.YtjcgijchmnnfaaaDoorRows
import GoSem.ClaimSeven
namespace Go.Proofs.YtjcgijchmnnfaaaDoor
namespace Rows

/-- THE TIED CARD OF 'choraguslaw03.PidStrict'. -/
def pidStrictCard : Claim7 := { stood := { row := pidStrictRow, standIns := [], harness := (true, "786cd7b931afc7ab9a3c15bb7d5a34b4e5de23fa3ddc67f4b4a36f788aa35e3d"), looks := false }, kinds := [], alts := [], laidByText := true, laidKinds := [.data, .data, .data], laidTests := true, laidLooks := .later }
def PidStrictCardSaid : Prop := Claim7.holds Tryd.pinned (.plain (OpenSpec.ofChange pidStrictSpec)) pidStrictCard

/-- THE TIED CARD OF 'choraguslaw03.PidOrder'. -/
def pidOrderCard : Claim7 := { stood := { row := pidOrderRow, standIns := [], harness := (true, "786cd7b931afc7ab9a3c15bb7d5a34b4e5de23fa3ddc67f4b4a36f788aa35e3d"), looks := false }, kinds := [], alts := [], laidByText := true, laidKinds := [.data, .data, .data], laidTests := true, laidLooks := .later }
def PidOrderCardSaid : Prop := Claim7.holds Tryd.pinned (.plain (OpenSpec.ofChange pidOrderSpec)) pidOrderCard

/-- THE TIED CARD OF 'choraguslaw03.PidBytes'. -/
def pidBytesCard : Claim7 := { stood := { row := pidBytesRow, standIns := [], harness := (true, "786cd7b931afc7ab9a3c15bb7d5a34b4e5de23fa3ddc67f4b4a36f788aa35e3d"), looks := false }, kinds := [], alts := [], laidByText := true, laidKinds := [.data, .data, .data], laidTests := true, laidLooks := .later }
def PidBytesCardSaid : Prop := Claim7.holds Tryd.pinned (.plain (OpenSpec.ofChange pidBytesSpec)) pidBytesCard

/-- THE SECOND FORM's CARD OF 'choraguslaw03.PidStrict'. -/
def pidStrictUptoCard : Claim7 := { stood := { row := pidStrictUptoRow, standIns := [], harness := (true, "786cd7b931afc7ab9a3c15bb7d5a34b4e5de23fa3ddc67f4b4a36f788aa35e3d"), looks := false }, kinds := [], alts := [], laidByText := true, laidKinds := [.data, .data, .data], laidTests := true, laidLooks := .later }
def PidStrictUptoCardSaid : Prop := Claim7.holds Tryd.pinned (.plain (OpenSpec.upto pidStrictSpec)) pidStrictUptoCard

/-- THE SECOND FORM's CARD OF 'choraguslaw03.PidOrder'. -/
def pidOrderUptoCard : Claim7 := { stood := { row := pidOrderUptoRow, standIns := [], harness := (true, "786cd7b931afc7ab9a3c15bb7d5a34b4e5de23fa3ddc67f4b4a36f788aa35e3d"), looks := false }, kinds := [], alts := [], laidByText := true, laidKinds := [.data, .data, .data], laidTests := true, laidLooks := .later }
def PidOrderUptoCardSaid : Prop := Claim7.holds Tryd.pinned (.plain (OpenSpec.upto pidOrderSpec)) pidOrderUptoCard

/-- THE SECOND FORM's CARD OF 'choraguslaw03.PidBytes'. -/
def pidBytesUptoCard : Claim7 := { stood := { row := pidBytesUptoRow, standIns := [], harness := (true, "786cd7b931afc7ab9a3c15bb7d5a34b4e5de23fa3ddc67f4b4a36f788aa35e3d"), looks := false }, kinds := [], alts := [], laidByText := true, laidKinds := [.data, .data, .data], laidTests := true, laidLooks := .later }
def PidBytesUptoCardSaid : Prop := Claim7.holds Tryd.pinned (.plain (OpenSpec.upto pidBytesSpec)) pidBytesUptoCard
end Rows
end Go.Proofs.YtjcgijchmnnfaaaDoor
