/-
  No cell of these rows narrows 'for every input' (looked for: loops, veiled, ifaces, maps, wideKeys, modest, calm, conditions, laid).
  DERIVED. THE GIVEN ROWS OF THIS SEAT. 11 by the template 'for every input the law returns true; each argument reads behind the call as it read before'; 0 by the template 'total and deterministic' (their statements: YteodaakdjnjhmaaTotals.lean).
  GIVEN WITH THE SEED: the statements are not yours to turn. If you find one false, say at which input.
  Laid BY PROGRAM, IN A SANDBOX (cutbox-rows.mjs): the forced cells as the released guide's own fill.sh prints them over the translation d6183bb9e6067cb8… (all of the seat's roots in one cut). By AI agents, Wed Nov 11 2026. No macro, syntax, notation, axiom, sorry.
-/
import Derived.Test.YteodaakdjnjhmaaChecked
import GoSem.Claim
import GoSem.ClaimJoined
import GoSem.ClaimMapViews
import Derived.JoinedTies
import Derived.KernelRfl
namespace Go.Proofs.Yteodaakdjnjhmaa
/- THE CELL 'sum', in the pinned program and in every row, IS THE sha256 OF THE DUMP (.gsa) THAT YteodaakdjnjhmaaProg.lean LOADS. Nothing in Lean hashes anything: it is a label: what it is worth is what the hold of that sum in a sandbox is worth. -/
noncomputable def Try.pinned : Pinned := { name := "yteodaakdjnjhmaa", sum := "d6183bb9e6067cb8003795fdf250e772b14ad91c729abeb1739eb041dab204d5", checked := Try.checked }
namespace Rows
def none {H : Type} : Left H := { results := [], args := [] }

/-- 'choraguslaw08.ViewLocals': WHATEVER THE INPUT: true; the input reads as it did. -/
def viewLocalsSpec : ChangeSpec := { name := "viewLocals", fn := fun _ => fun
  | [d1, d2] => { results := [.lit (.bool true)], args := [d1, d2] }
  | _ => none }
def viewLocalsRow : OpenClaim := { program := "yteodaakdjnjhmaa", sum := "d6183bb9e6067cb8003795fdf250e772b14ad91c729abeb1739eb041dab204d5", func := "choragus/choraguslaw08.ViewLocals", spec := "viewLocals", unfollowed := true, recurses := true, plainKeys := false, apart := false }
def ViewLocalsSaid : Prop := viewLocalsRow.holds Try.pinned (OpenSpec.ofChange viewLocalsSpec)

/-- ITS FALSE NEIGHBOUR: 'it returns false'. Refute it at one input. -/
def viewLocalsWrong : ChangeSpec := { name := "viewLocals", fn := fun _ => fun
  | [d1, d2] => { results := [.lit (.bool false)], args := [d1, d2] }
  | _ => none }
def ViewLocalsWrongFalsely : Prop := viewLocalsRow.holds Try.pinned (OpenSpec.ofChange viewLocalsWrong)

/-- 'choraguslaw09.CmdApart': WHATEVER THE INPUT: true; the input reads as it did. -/
def cmdApartSpec : ChangeSpec := { name := "cmdApart", fn := fun _ => fun
  | [d1, d2] => { results := [.lit (.bool true)], args := [d1, d2] }
  | _ => none }
def cmdApartRow : OpenClaim := { program := "yteodaakdjnjhmaa", sum := "d6183bb9e6067cb8003795fdf250e772b14ad91c729abeb1739eb041dab204d5", func := "choragus/choraguslaw09.CmdApart", spec := "cmdApart", unfollowed := true, recurses := true, plainKeys := false, apart := false }
def CmdApartSaid : Prop := cmdApartRow.holds Try.pinned (OpenSpec.ofChange cmdApartSpec)

/-- ITS FALSE NEIGHBOUR: 'it returns false'. Refute it at one input. -/
def cmdApartWrong : ChangeSpec := { name := "cmdApart", fn := fun _ => fun
  | [d1, d2] => { results := [.lit (.bool false)], args := [d1, d2] }
  | _ => none }
def CmdApartWrongFalsely : Prop := cmdApartRow.holds Try.pinned (OpenSpec.ofChange cmdApartWrong)

/-- 'choraguslaw08.ViewBack': WHATEVER THE INPUT: true; the input reads as it did. -/
def viewBackSpec : ChangeSpec := { name := "viewBack", fn := fun _ => fun
  | [d1, d2] => { results := [.lit (.bool true)], args := [d1, d2] }
  | _ => none }
def viewBackRow : OpenClaim := { program := "yteodaakdjnjhmaa", sum := "d6183bb9e6067cb8003795fdf250e772b14ad91c729abeb1739eb041dab204d5", func := "choragus/choraguslaw08.ViewBack", spec := "viewBack", unfollowed := true, recurses := true, plainKeys := false, apart := false }
def ViewBackSaid : Prop := viewBackRow.holds Try.pinned (OpenSpec.ofChange viewBackSpec)

/-- ITS FALSE NEIGHBOUR: 'it returns false'. Refute it at one input. -/
def viewBackWrong : ChangeSpec := { name := "viewBack", fn := fun _ => fun
  | [d1, d2] => { results := [.lit (.bool false)], args := [d1, d2] }
  | _ => none }
def ViewBackWrongFalsely : Prop := viewBackRow.holds Try.pinned (OpenSpec.ofChange viewBackWrong)

/-- 'choraguslaw10.MsgEncodes': WHATEVER THE INPUT: true; the input reads as it did. -/
def msgEncodesSpec : ChangeSpec := { name := "msgEncodes", fn := fun _ => fun
  | [d] => { results := [.lit (.bool true)], args := [d] }
  | _ => none }
def msgEncodesRow : OpenClaim := { program := "yteodaakdjnjhmaa", sum := "d6183bb9e6067cb8003795fdf250e772b14ad91c729abeb1739eb041dab204d5", func := "choragus/choraguslaw10.MsgEncodes", spec := "msgEncodes", unfollowed := true, recurses := true, plainKeys := false, apart := false }
def MsgEncodesSaid : Prop := msgEncodesRow.holds Try.pinned (OpenSpec.ofChange msgEncodesSpec)

/-- ITS FALSE NEIGHBOUR: 'it returns false'. Refute it at one input. -/
def msgEncodesWrong : ChangeSpec := { name := "msgEncodes", fn := fun _ => fun
  | [d] => { results := [.lit (.bool false)], args := [d] }
  | _ => none }
def MsgEncodesWrongFalsely : Prop := msgEncodesRow.holds Try.pinned (OpenSpec.ofChange msgEncodesWrong)

/-- 'choraguslaw09.CmdForms': WHATEVER THE INPUT: true; the input reads as it did. -/
def cmdFormsSpec : ChangeSpec := { name := "cmdForms", fn := fun _ => fun
  | [d1, d2] => { results := [.lit (.bool true)], args := [d1, d2] }
  | _ => none }
def cmdFormsRow : OpenClaim := { program := "yteodaakdjnjhmaa", sum := "d6183bb9e6067cb8003795fdf250e772b14ad91c729abeb1739eb041dab204d5", func := "choragus/choraguslaw09.CmdForms", spec := "cmdForms", unfollowed := true, recurses := true, plainKeys := false, apart := false }
def CmdFormsSaid : Prop := cmdFormsRow.holds Try.pinned (OpenSpec.ofChange cmdFormsSpec)

/-- ITS FALSE NEIGHBOUR: 'it returns false'. Refute it at one input. -/
def cmdFormsWrong : ChangeSpec := { name := "cmdForms", fn := fun _ => fun
  | [d1, d2] => { results := [.lit (.bool false)], args := [d1, d2] }
  | _ => none }
def CmdFormsWrongFalsely : Prop := cmdFormsRow.holds Try.pinned (OpenSpec.ofChange cmdFormsWrong)

/-- 'choraguslaw09.CmdBack': WHATEVER THE INPUT: true; the input reads as it did. -/
def cmdBackSpec : ChangeSpec := { name := "cmdBack", fn := fun _ => fun
  | [d1, d2] => { results := [.lit (.bool true)], args := [d1, d2] }
  | _ => none }
def cmdBackRow : OpenClaim := { program := "yteodaakdjnjhmaa", sum := "d6183bb9e6067cb8003795fdf250e772b14ad91c729abeb1739eb041dab204d5", func := "choragus/choraguslaw09.CmdBack", spec := "cmdBack", unfollowed := true, recurses := true, plainKeys := false, apart := false }
def CmdBackSaid : Prop := cmdBackRow.holds Try.pinned (OpenSpec.ofChange cmdBackSpec)

/-- ITS FALSE NEIGHBOUR: 'it returns false'. Refute it at one input. -/
def cmdBackWrong : ChangeSpec := { name := "cmdBack", fn := fun _ => fun
  | [d1, d2] => { results := [.lit (.bool false)], args := [d1, d2] }
  | _ => none }
def CmdBackWrongFalsely : Prop := cmdBackRow.holds Try.pinned (OpenSpec.ofChange cmdBackWrong)

/-- 'choraguslaw10.MsgBeats': WHATEVER THE INPUT: true; the input reads as it did. -/
def msgBeatsSpec : ChangeSpec := { name := "msgBeats", fn := fun _ => fun
  | [d1, d2] => { results := [.lit (.bool true)], args := [d1, d2] }
  | _ => none }
def msgBeatsRow : OpenClaim := { program := "yteodaakdjnjhmaa", sum := "d6183bb9e6067cb8003795fdf250e772b14ad91c729abeb1739eb041dab204d5", func := "choragus/choraguslaw10.MsgBeats", spec := "msgBeats", unfollowed := true, recurses := true, plainKeys := false, apart := false }
def MsgBeatsSaid : Prop := msgBeatsRow.holds Try.pinned (OpenSpec.ofChange msgBeatsSpec)

/-- ITS FALSE NEIGHBOUR: 'it returns false'. Refute it at one input. -/
def msgBeatsWrong : ChangeSpec := { name := "msgBeats", fn := fun _ => fun
  | [d1, d2] => { results := [.lit (.bool false)], args := [d1, d2] }
  | _ => none }
def MsgBeatsWrongFalsely : Prop := msgBeatsRow.holds Try.pinned (OpenSpec.ofChange msgBeatsWrong)

/-- 'choraguslaw10.MsgDecodes': WHATEVER THE INPUT: true; the input reads as it did. -/
def msgDecodesSpec : ChangeSpec := { name := "msgDecodes", fn := fun _ => fun
  | [d] => { results := [.lit (.bool true)], args := [d] }
  | _ => none }
def msgDecodesRow : OpenClaim := { program := "yteodaakdjnjhmaa", sum := "d6183bb9e6067cb8003795fdf250e772b14ad91c729abeb1739eb041dab204d5", func := "choragus/choraguslaw10.MsgDecodes", spec := "msgDecodes", unfollowed := true, recurses := true, plainKeys := false, apart := false }
def MsgDecodesSaid : Prop := msgDecodesRow.holds Try.pinned (OpenSpec.ofChange msgDecodesSpec)

/-- ITS FALSE NEIGHBOUR: 'it returns false'. Refute it at one input. -/
def msgDecodesWrong : ChangeSpec := { name := "msgDecodes", fn := fun _ => fun
  | [d] => { results := [.lit (.bool false)], args := [d] }
  | _ => none }
def MsgDecodesWrongFalsely : Prop := msgDecodesRow.holds Try.pinned (OpenSpec.ofChange msgDecodesWrong)

/-- 'choraguslaw10.MsgBack': WHATEVER THE INPUT: true; the input reads as it did. -/
def msgBackSpec : ChangeSpec := { name := "msgBack", fn := fun _ => fun
  | [d1, d2] => { results := [.lit (.bool true)], args := [d1, d2] }
  | _ => none }
def msgBackRow : OpenClaim := { program := "yteodaakdjnjhmaa", sum := "d6183bb9e6067cb8003795fdf250e772b14ad91c729abeb1739eb041dab204d5", func := "choragus/choraguslaw10.MsgBack", spec := "msgBack", unfollowed := true, recurses := true, plainKeys := false, apart := false }
def MsgBackSaid : Prop := msgBackRow.holds Try.pinned (OpenSpec.ofChange msgBackSpec)

/-- ITS FALSE NEIGHBOUR: 'it returns false'. Refute it at one input. -/
def msgBackWrong : ChangeSpec := { name := "msgBack", fn := fun _ => fun
  | [d1, d2] => { results := [.lit (.bool false)], args := [d1, d2] }
  | _ => none }
def MsgBackWrongFalsely : Prop := msgBackRow.holds Try.pinned (OpenSpec.ofChange msgBackWrong)

/-- 'choraguslaw10.MsgWhole': WHATEVER THE INPUT: true; the input reads as it did. -/
def msgWholeSpec : ChangeSpec := { name := "msgWhole", fn := fun _ => fun
  | [d1, d2, d3] => { results := [.lit (.bool true)], args := [d1, d2, d3] }
  | _ => none }
def msgWholeRow : OpenClaim := { program := "yteodaakdjnjhmaa", sum := "d6183bb9e6067cb8003795fdf250e772b14ad91c729abeb1739eb041dab204d5", func := "choragus/choraguslaw10.MsgWhole", spec := "msgWhole", unfollowed := true, recurses := true, plainKeys := false, apart := false }
def MsgWholeSaid : Prop := msgWholeRow.holds Try.pinned (OpenSpec.ofChange msgWholeSpec)

/-- ITS FALSE NEIGHBOUR: 'it returns false'. Refute it at one input. -/
def msgWholeWrong : ChangeSpec := { name := "msgWhole", fn := fun _ => fun
  | [d1, d2, d3] => { results := [.lit (.bool false)], args := [d1, d2, d3] }
  | _ => none }
def MsgWholeWrongFalsely : Prop := msgWholeRow.holds Try.pinned (OpenSpec.ofChange msgWholeWrong)

/-- 'choraguslaw17.LayoutMoves': WHATEVER THE INPUT: true; the input reads as it did. -/
def layoutMovesSpec : ChangeSpec := { name := "layoutMoves", fn := fun _ => fun
  | [d1, d2] => { results := [.lit (.bool true)], args := [d1, d2] }
  | _ => none }
def layoutMovesRow : OpenClaim := { program := "yteodaakdjnjhmaa", sum := "d6183bb9e6067cb8003795fdf250e772b14ad91c729abeb1739eb041dab204d5", func := "choragus/choraguslaw17.LayoutMoves", spec := "layoutMoves", unfollowed := true, recurses := true, plainKeys := false, apart := false }
def LayoutMovesSaid : Prop := layoutMovesRow.holds Try.pinned (OpenSpec.ofChange layoutMovesSpec)

/-- ITS FALSE NEIGHBOUR: 'it returns false'. Refute it at one input. -/
def layoutMovesWrong : ChangeSpec := { name := "layoutMoves", fn := fun _ => fun
  | [d1, d2] => { results := [.lit (.bool false)], args := [d1, d2] }
  | _ => none }
def LayoutMovesWrongFalsely : Prop := layoutMovesRow.holds Try.pinned (OpenSpec.ofChange layoutMovesWrong)

/- THE SECOND FORM. 'bulk': how many values and letters a reading holds, each counted each time it is reached (what is shared counts as often as it is met; a slice's spare places count too). A statement '..UptoSaid' is the law's where the arguments, and the package variables that the reading takes, are together of bulk at most 1048576: NARROWER than '..Said'. Prove '..Said' where nothing that the law and all that it calls make is longer than what came in: it says more and counts as full. Else prove '..UptoSaid'. A law counts once. -/
mutual
def uptoBulk {H : Type} : DataW H → Nat
  | .lit (.string bytes) => bytes.length + 1
  | .lit _ => 1
  | .nil => 1
  | .ptr d => uptoBulk d + 1
  | .slice elems spare => uptoBulkAll elems + uptoBulkAll spare + 1
  | .agg parts => uptoBulkAll parts + 1
  | .iface _ d => uptoBulk d + 1
  | .map entries => uptoBulkEntries entries + 1
  | .held _ => 1
def uptoBulkAll {H : Type} : List (DataW H) → Nat
  | [] => 0
  | d :: r => uptoBulk d + uptoBulkAll r
def uptoBulkEntries {H : Type} : List (Lit × DataW H) → Nat
  | [] => 0
  | x :: r => uptoBulkEntry x + uptoBulkEntries r
def uptoBulkEntry {H : Type} : Lit × DataW H → Nat
  | (.string bytes, d) => bytes.length + uptoBulk d + 1
  | (_, d) => uptoBulk d + 1
 end
def uptoSmall : (H : Type) → List (DataW H) → Bool := fun _ ds => decide (uptoBulkAll ds ≤ 1048576)
def OpenSpec.upto (s : _root_.Go.ChangeSpec) : _root_.Go.OpenSpec := { _root_.Go.OpenSpec.ofChange s with cond := some uptoSmall }

/-- 'choraguslaw08.ViewLocals', WHERE WHAT IT READS IS OF BULK AT MOST 1048576: true; the input reads as it did. -/
def viewLocalsUptoRow : OpenClaim := { program := "yteodaakdjnjhmaa", sum := "d6183bb9e6067cb8003795fdf250e772b14ad91c729abeb1739eb041dab204d5", func := "choragus/choraguslaw08.ViewLocals", spec := "viewLocals", unfollowed := true, recurses := true, plainKeys := false, apart := false, narrowed := true }
def ViewLocalsUptoSaid : Prop := viewLocalsUptoRow.holds Try.pinned (OpenSpec.upto viewLocalsSpec)

/-- 'choraguslaw09.CmdApart', WHERE WHAT IT READS IS OF BULK AT MOST 1048576: true; the input reads as it did. -/
def cmdApartUptoRow : OpenClaim := { program := "yteodaakdjnjhmaa", sum := "d6183bb9e6067cb8003795fdf250e772b14ad91c729abeb1739eb041dab204d5", func := "choragus/choraguslaw09.CmdApart", spec := "cmdApart", unfollowed := true, recurses := true, plainKeys := false, apart := false, narrowed := true }
def CmdApartUptoSaid : Prop := cmdApartUptoRow.holds Try.pinned (OpenSpec.upto cmdApartSpec)

/-- 'choraguslaw08.ViewBack', WHERE WHAT IT READS IS OF BULK AT MOST 1048576: true; the input reads as it did. -/
def viewBackUptoRow : OpenClaim := { program := "yteodaakdjnjhmaa", sum := "d6183bb9e6067cb8003795fdf250e772b14ad91c729abeb1739eb041dab204d5", func := "choragus/choraguslaw08.ViewBack", spec := "viewBack", unfollowed := true, recurses := true, plainKeys := false, apart := false, narrowed := true }
def ViewBackUptoSaid : Prop := viewBackUptoRow.holds Try.pinned (OpenSpec.upto viewBackSpec)

/-- 'choraguslaw10.MsgEncodes', WHERE WHAT IT READS IS OF BULK AT MOST 1048576: true; the input reads as it did. -/
def msgEncodesUptoRow : OpenClaim := { program := "yteodaakdjnjhmaa", sum := "d6183bb9e6067cb8003795fdf250e772b14ad91c729abeb1739eb041dab204d5", func := "choragus/choraguslaw10.MsgEncodes", spec := "msgEncodes", unfollowed := true, recurses := true, plainKeys := false, apart := false, narrowed := true }
def MsgEncodesUptoSaid : Prop := msgEncodesUptoRow.holds Try.pinned (OpenSpec.upto msgEncodesSpec)

/-- 'choraguslaw09.CmdForms', WHERE WHAT IT READS IS OF BULK AT MOST 1048576: true; the input reads as it did. -/
def cmdFormsUptoRow : OpenClaim := { program := "yteodaakdjnjhmaa", sum := "d6183bb9e6067cb8003795fdf250e772b14ad91c729abeb1739eb041dab204d5", func := "choragus/choraguslaw09.CmdForms", spec := "cmdForms", unfollowed := true, recurses := true, plainKeys := false, apart := false, narrowed := true }
def CmdFormsUptoSaid : Prop := cmdFormsUptoRow.holds Try.pinned (OpenSpec.upto cmdFormsSpec)

/-- 'choraguslaw09.CmdBack', WHERE WHAT IT READS IS OF BULK AT MOST 1048576: true; the input reads as it did. -/
def cmdBackUptoRow : OpenClaim := { program := "yteodaakdjnjhmaa", sum := "d6183bb9e6067cb8003795fdf250e772b14ad91c729abeb1739eb041dab204d5", func := "choragus/choraguslaw09.CmdBack", spec := "cmdBack", unfollowed := true, recurses := true, plainKeys := false, apart := false, narrowed := true }
def CmdBackUptoSaid : Prop := cmdBackUptoRow.holds Try.pinned (OpenSpec.upto cmdBackSpec)

/-- 'choraguslaw10.MsgBeats', WHERE WHAT IT READS IS OF BULK AT MOST 1048576: true; the input reads as it did. -/
def msgBeatsUptoRow : OpenClaim := { program := "yteodaakdjnjhmaa", sum := "d6183bb9e6067cb8003795fdf250e772b14ad91c729abeb1739eb041dab204d5", func := "choragus/choraguslaw10.MsgBeats", spec := "msgBeats", unfollowed := true, recurses := true, plainKeys := false, apart := false, narrowed := true }
def MsgBeatsUptoSaid : Prop := msgBeatsUptoRow.holds Try.pinned (OpenSpec.upto msgBeatsSpec)

/-- 'choraguslaw10.MsgDecodes', WHERE WHAT IT READS IS OF BULK AT MOST 1048576: true; the input reads as it did. -/
def msgDecodesUptoRow : OpenClaim := { program := "yteodaakdjnjhmaa", sum := "d6183bb9e6067cb8003795fdf250e772b14ad91c729abeb1739eb041dab204d5", func := "choragus/choraguslaw10.MsgDecodes", spec := "msgDecodes", unfollowed := true, recurses := true, plainKeys := false, apart := false, narrowed := true }
def MsgDecodesUptoSaid : Prop := msgDecodesUptoRow.holds Try.pinned (OpenSpec.upto msgDecodesSpec)

/-- 'choraguslaw10.MsgBack', WHERE WHAT IT READS IS OF BULK AT MOST 1048576: true; the input reads as it did. -/
def msgBackUptoRow : OpenClaim := { program := "yteodaakdjnjhmaa", sum := "d6183bb9e6067cb8003795fdf250e772b14ad91c729abeb1739eb041dab204d5", func := "choragus/choraguslaw10.MsgBack", spec := "msgBack", unfollowed := true, recurses := true, plainKeys := false, apart := false, narrowed := true }
def MsgBackUptoSaid : Prop := msgBackUptoRow.holds Try.pinned (OpenSpec.upto msgBackSpec)

/-- 'choraguslaw10.MsgWhole', WHERE WHAT IT READS IS OF BULK AT MOST 1048576: true; the input reads as it did. -/
def msgWholeUptoRow : OpenClaim := { program := "yteodaakdjnjhmaa", sum := "d6183bb9e6067cb8003795fdf250e772b14ad91c729abeb1739eb041dab204d5", func := "choragus/choraguslaw10.MsgWhole", spec := "msgWhole", unfollowed := true, recurses := true, plainKeys := false, apart := false, narrowed := true }
def MsgWholeUptoSaid : Prop := msgWholeUptoRow.holds Try.pinned (OpenSpec.upto msgWholeSpec)

/-- 'choraguslaw17.LayoutMoves', WHERE WHAT IT READS IS OF BULK AT MOST 1048576: true; the input reads as it did. -/
def layoutMovesUptoRow : OpenClaim := { program := "yteodaakdjnjhmaa", sum := "d6183bb9e6067cb8003795fdf250e772b14ad91c729abeb1739eb041dab204d5", func := "choragus/choraguslaw17.LayoutMoves", spec := "layoutMoves", unfollowed := true, recurses := true, plainKeys := false, apart := false, narrowed := true }
def LayoutMovesUptoSaid : Prop := layoutMovesUptoRow.holds Try.pinned (OpenSpec.upto layoutMovesSpec)

end Rows
end Go.Proofs.Yteodaakdjnjhmaa
