/-
  No cell of these rows narrows 'for every input' (looked for: loops, veiled, ifaces, maps, wideKeys, modest, calm, conditions, laid).
  DERIVED. THE GIVEN ROWS OF THIS SEAT. 14 by the template 'for every input the law returns true; each argument reads behind the call as it read before'; 0 by the template 'total and deterministic' (their statements: YtbpfhclcjedkcaaTotals.lean).
  GIVEN WITH THE SEED: the statements are not yours to turn. If you find one false, say at which input.
  Laid BY PROGRAM, IN A SANDBOX (cutbox-rows.mjs): the forced cells as the released guide's own fill.sh prints them over the translation 2588e61498972705… (all of the seat's roots in one cut). By AI agents, Wed Nov 11 2026. No macro, syntax, notation, axiom, sorry.
-/
import Derived.Test.YtbpfhclcjedkcaaChecked
import GoSem.Claim
import GoSem.ClaimJoined
import GoSem.ClaimMapViews
import Derived.JoinedTies
import Derived.KernelRfl
namespace Go.Proofs.Ytbpfhclcjedkcaa
/- THE CELL 'sum', in the pinned program and in every row, IS THE sha256 OF THE DUMP (.gsa) THAT YtbpfhclcjedkcaaProg.lean LOADS. Nothing in Lean hashes anything: it is a label: what it is worth is what the hold of that sum in a sandbox is worth. -/
noncomputable def Try.pinned : Pinned := { name := "ytbpfhclcjedkcaa", sum := "2588e61498972705238c421f29531d1ee6cffc15b1416598c4b7df3387325de9", checked := Try.checked }
namespace Rows
def none {H : Type} : Left H := { results := [], args := [] }

/-- 'choraguslaw08.ViewLocals': WHATEVER THE INPUT: true; the input reads as it did. -/
def viewLocalsSpec : ChangeSpec := { name := "viewLocals", fn := fun _ => fun
  | [d1, d2] => { results := [.lit (.bool true)], args := [d1, d2] }
  | _ => none }
def viewLocalsRow : OpenClaim := { program := "ytbpfhclcjedkcaa", sum := "2588e61498972705238c421f29531d1ee6cffc15b1416598c4b7df3387325de9", func := "choragus/choraguslaw08.ViewLocals", spec := "viewLocals", unfollowed := true, recurses := true, plainKeys := false, apart := false }
def ViewLocalsSaid : Prop := viewLocalsRow.holds Try.pinned (OpenSpec.ofChange viewLocalsSpec)

/-- ITS FALSE NEIGHBOUR: 'it returns false'. Refute it at one input. -/
def viewLocalsWrong : ChangeSpec := { name := "viewLocals", fn := fun _ => fun
  | [d1, d2] => { results := [.lit (.bool false)], args := [d1, d2] }
  | _ => none }
def ViewLocalsWrongFalsely : Prop := viewLocalsRow.holds Try.pinned (OpenSpec.ofChange viewLocalsWrong)

/-- 'choraguslaw10.MsgEncodes': WHATEVER THE INPUT: true; the input reads as it did. -/
def msgEncodesSpec : ChangeSpec := { name := "msgEncodes", fn := fun _ => fun
  | [d] => { results := [.lit (.bool true)], args := [d] }
  | _ => none }
def msgEncodesRow : OpenClaim := { program := "ytbpfhclcjedkcaa", sum := "2588e61498972705238c421f29531d1ee6cffc15b1416598c4b7df3387325de9", func := "choragus/choraguslaw10.MsgEncodes", spec := "msgEncodes", unfollowed := true, recurses := true, plainKeys := false, apart := false }
def MsgEncodesSaid : Prop := msgEncodesRow.holds Try.pinned (OpenSpec.ofChange msgEncodesSpec)

/-- ITS FALSE NEIGHBOUR: 'it returns false'. Refute it at one input. -/
def msgEncodesWrong : ChangeSpec := { name := "msgEncodes", fn := fun _ => fun
  | [d] => { results := [.lit (.bool false)], args := [d] }
  | _ => none }
def MsgEncodesWrongFalsely : Prop := msgEncodesRow.holds Try.pinned (OpenSpec.ofChange msgEncodesWrong)

/-- 'choraguslaw10.MsgBeats': WHATEVER THE INPUT: true; the input reads as it did. -/
def msgBeatsSpec : ChangeSpec := { name := "msgBeats", fn := fun _ => fun
  | [d1, d2] => { results := [.lit (.bool true)], args := [d1, d2] }
  | _ => none }
def msgBeatsRow : OpenClaim := { program := "ytbpfhclcjedkcaa", sum := "2588e61498972705238c421f29531d1ee6cffc15b1416598c4b7df3387325de9", func := "choragus/choraguslaw10.MsgBeats", spec := "msgBeats", unfollowed := true, recurses := true, plainKeys := false, apart := false }
def MsgBeatsSaid : Prop := msgBeatsRow.holds Try.pinned (OpenSpec.ofChange msgBeatsSpec)

/-- ITS FALSE NEIGHBOUR: 'it returns false'. Refute it at one input. -/
def msgBeatsWrong : ChangeSpec := { name := "msgBeats", fn := fun _ => fun
  | [d1, d2] => { results := [.lit (.bool false)], args := [d1, d2] }
  | _ => none }
def MsgBeatsWrongFalsely : Prop := msgBeatsRow.holds Try.pinned (OpenSpec.ofChange msgBeatsWrong)

/-- 'choraguslaw10.MsgDecodes': WHATEVER THE INPUT: true; the input reads as it did. -/
def msgDecodesSpec : ChangeSpec := { name := "msgDecodes", fn := fun _ => fun
  | [d] => { results := [.lit (.bool true)], args := [d] }
  | _ => none }
def msgDecodesRow : OpenClaim := { program := "ytbpfhclcjedkcaa", sum := "2588e61498972705238c421f29531d1ee6cffc15b1416598c4b7df3387325de9", func := "choragus/choraguslaw10.MsgDecodes", spec := "msgDecodes", unfollowed := true, recurses := true, plainKeys := false, apart := false }
def MsgDecodesSaid : Prop := msgDecodesRow.holds Try.pinned (OpenSpec.ofChange msgDecodesSpec)

/-- ITS FALSE NEIGHBOUR: 'it returns false'. Refute it at one input. -/
def msgDecodesWrong : ChangeSpec := { name := "msgDecodes", fn := fun _ => fun
  | [d] => { results := [.lit (.bool false)], args := [d] }
  | _ => none }
def MsgDecodesWrongFalsely : Prop := msgDecodesRow.holds Try.pinned (OpenSpec.ofChange msgDecodesWrong)

/-- 'choraguslaw10.MsgBack': WHATEVER THE INPUT: true; the input reads as it did. -/
def msgBackSpec : ChangeSpec := { name := "msgBack", fn := fun _ => fun
  | [d1, d2] => { results := [.lit (.bool true)], args := [d1, d2] }
  | _ => none }
def msgBackRow : OpenClaim := { program := "ytbpfhclcjedkcaa", sum := "2588e61498972705238c421f29531d1ee6cffc15b1416598c4b7df3387325de9", func := "choragus/choraguslaw10.MsgBack", spec := "msgBack", unfollowed := true, recurses := true, plainKeys := false, apart := false }
def MsgBackSaid : Prop := msgBackRow.holds Try.pinned (OpenSpec.ofChange msgBackSpec)

/-- ITS FALSE NEIGHBOUR: 'it returns false'. Refute it at one input. -/
def msgBackWrong : ChangeSpec := { name := "msgBack", fn := fun _ => fun
  | [d1, d2] => { results := [.lit (.bool false)], args := [d1, d2] }
  | _ => none }
def MsgBackWrongFalsely : Prop := msgBackRow.holds Try.pinned (OpenSpec.ofChange msgBackWrong)

/-- 'choraguslaw10.MsgWhole': WHATEVER THE INPUT: true; the input reads as it did. -/
def msgWholeSpec : ChangeSpec := { name := "msgWhole", fn := fun _ => fun
  | [d1, d2, d3] => { results := [.lit (.bool true)], args := [d1, d2, d3] }
  | _ => none }
def msgWholeRow : OpenClaim := { program := "ytbpfhclcjedkcaa", sum := "2588e61498972705238c421f29531d1ee6cffc15b1416598c4b7df3387325de9", func := "choragus/choraguslaw10.MsgWhole", spec := "msgWhole", unfollowed := true, recurses := true, plainKeys := false, apart := false }
def MsgWholeSaid : Prop := msgWholeRow.holds Try.pinned (OpenSpec.ofChange msgWholeSpec)

/-- ITS FALSE NEIGHBOUR: 'it returns false'. Refute it at one input. -/
def msgWholeWrong : ChangeSpec := { name := "msgWhole", fn := fun _ => fun
  | [d1, d2, d3] => { results := [.lit (.bool false)], args := [d1, d2, d3] }
  | _ => none }
def MsgWholeWrongFalsely : Prop := msgWholeRow.holds Try.pinned (OpenSpec.ofChange msgWholeWrong)

/-- 'choraguslaw17.LayoutMoves': WHATEVER THE INPUT: true; the input reads as it did. -/
def layoutMovesSpec : ChangeSpec := { name := "layoutMoves", fn := fun _ => fun
  | [d1, d2] => { results := [.lit (.bool true)], args := [d1, d2] }
  | _ => none }
def layoutMovesRow : OpenClaim := { program := "ytbpfhclcjedkcaa", sum := "2588e61498972705238c421f29531d1ee6cffc15b1416598c4b7df3387325de9", func := "choragus/choraguslaw17.LayoutMoves", spec := "layoutMoves", unfollowed := true, recurses := true, plainKeys := false, apart := false }
def LayoutMovesSaid : Prop := layoutMovesRow.holds Try.pinned (OpenSpec.ofChange layoutMovesSpec)

/-- ITS FALSE NEIGHBOUR: 'it returns false'. Refute it at one input. -/
def layoutMovesWrong : ChangeSpec := { name := "layoutMoves", fn := fun _ => fun
  | [d1, d2] => { results := [.lit (.bool false)], args := [d1, d2] }
  | _ => none }
def LayoutMovesWrongFalsely : Prop := layoutMovesRow.holds Try.pinned (OpenSpec.ofChange layoutMovesWrong)

/-- 'choraguslaw13.HubPair': WHATEVER THE INPUT: true; the input reads as it did. -/
def hubPairSpec : ChangeSpec := { name := "hubPair", fn := fun _ => fun
  | [d1, d2] => { results := [.lit (.bool true)], args := [d1, d2] }
  | _ => none }
def hubPairRow : OpenClaim := { program := "ytbpfhclcjedkcaa", sum := "2588e61498972705238c421f29531d1ee6cffc15b1416598c4b7df3387325de9", func := "choragus/choraguslaw13.HubPair", spec := "hubPair", unfollowed := true, recurses := true, plainKeys := false, apart := false }
def HubPairSaid : Prop := hubPairRow.holds Try.pinned (OpenSpec.ofChange hubPairSpec)

/-- ITS FALSE NEIGHBOUR: 'it returns false'. Refute it at one input. -/
def hubPairWrong : ChangeSpec := { name := "hubPair", fn := fun _ => fun
  | [d1, d2] => { results := [.lit (.bool false)], args := [d1, d2] }
  | _ => none }
def HubPairWrongFalsely : Prop := hubPairRow.holds Try.pinned (OpenSpec.ofChange hubPairWrong)

/-- 'choraguslaw13.HubPlays': WHATEVER THE INPUT: true; the input reads as it did. -/
def hubPlaysSpec : ChangeSpec := { name := "hubPlays", fn := fun _ => fun
  | [d1, d2] => { results := [.lit (.bool true)], args := [d1, d2] }
  | _ => none }
def hubPlaysRow : OpenClaim := { program := "ytbpfhclcjedkcaa", sum := "2588e61498972705238c421f29531d1ee6cffc15b1416598c4b7df3387325de9", func := "choragus/choraguslaw13.HubPlays", spec := "hubPlays", unfollowed := true, recurses := true, plainKeys := false, apart := false }
def HubPlaysSaid : Prop := hubPlaysRow.holds Try.pinned (OpenSpec.ofChange hubPlaysSpec)

/-- ITS FALSE NEIGHBOUR: 'it returns false'. Refute it at one input. -/
def hubPlaysWrong : ChangeSpec := { name := "hubPlays", fn := fun _ => fun
  | [d1, d2] => { results := [.lit (.bool false)], args := [d1, d2] }
  | _ => none }
def HubPlaysWrongFalsely : Prop := hubPlaysRow.holds Try.pinned (OpenSpec.ofChange hubPlaysWrong)

/-- 'choraguslaw13.HubNil': WHATEVER THE INPUT: true; the input reads as it did. -/
def hubNilSpec : ChangeSpec := { name := "hubNil", fn := fun _ => fun
  | [d1, d2, d3] => { results := [.lit (.bool true)], args := [d1, d2, d3] }
  | _ => none }
def hubNilRow : OpenClaim := { program := "ytbpfhclcjedkcaa", sum := "2588e61498972705238c421f29531d1ee6cffc15b1416598c4b7df3387325de9", func := "choragus/choraguslaw13.HubNil", spec := "hubNil", unfollowed := true, recurses := true, plainKeys := false, apart := false }
def HubNilSaid : Prop := hubNilRow.holds Try.pinned (OpenSpec.ofChange hubNilSpec)

/-- ITS FALSE NEIGHBOUR: 'it returns false'. Refute it at one input. -/
def hubNilWrong : ChangeSpec := { name := "hubNil", fn := fun _ => fun
  | [d1, d2, d3] => { results := [.lit (.bool false)], args := [d1, d2, d3] }
  | _ => none }
def HubNilWrongFalsely : Prop := hubNilRow.holds Try.pinned (OpenSpec.ofChange hubNilWrong)

/-- 'choraguslaw17.LayoutFirsts': WHATEVER THE INPUT: true; the input reads as it did. -/
def layoutFirstsSpec : ChangeSpec := { name := "layoutFirsts", fn := fun _ => fun
  | [d1, d2] => { results := [.lit (.bool true)], args := [d1, d2] }
  | _ => none }
def layoutFirstsRow : OpenClaim := { program := "ytbpfhclcjedkcaa", sum := "2588e61498972705238c421f29531d1ee6cffc15b1416598c4b7df3387325de9", func := "choragus/choraguslaw17.LayoutFirsts", spec := "layoutFirsts", unfollowed := true, recurses := true, plainKeys := false, apart := false }
def LayoutFirstsSaid : Prop := layoutFirstsRow.holds Try.pinned (OpenSpec.ofChange layoutFirstsSpec)

/-- ITS FALSE NEIGHBOUR: 'it returns false'. Refute it at one input. -/
def layoutFirstsWrong : ChangeSpec := { name := "layoutFirsts", fn := fun _ => fun
  | [d1, d2] => { results := [.lit (.bool false)], args := [d1, d2] }
  | _ => none }
def LayoutFirstsWrongFalsely : Prop := layoutFirstsRow.holds Try.pinned (OpenSpec.ofChange layoutFirstsWrong)

/-- 'choraguslaw17.LayoutRight': WHATEVER THE INPUT: true; the input reads as it did. -/
def layoutRightSpec : ChangeSpec := { name := "layoutRight", fn := fun _ => fun
  | [d1, d2, d3, d4] => { results := [.lit (.bool true)], args := [d1, d2, d3, d4] }
  | _ => none }
def layoutRightRow : OpenClaim := { program := "ytbpfhclcjedkcaa", sum := "2588e61498972705238c421f29531d1ee6cffc15b1416598c4b7df3387325de9", func := "choragus/choraguslaw17.LayoutRight", spec := "layoutRight", unfollowed := true, recurses := true, plainKeys := false, apart := false }
def LayoutRightSaid : Prop := layoutRightRow.holds Try.pinned (OpenSpec.ofChange layoutRightSpec)

/-- ITS FALSE NEIGHBOUR: 'it returns false'. Refute it at one input. -/
def layoutRightWrong : ChangeSpec := { name := "layoutRight", fn := fun _ => fun
  | [d1, d2, d3, d4] => { results := [.lit (.bool false)], args := [d1, d2, d3, d4] }
  | _ => none }
def LayoutRightWrongFalsely : Prop := layoutRightRow.holds Try.pinned (OpenSpec.ofChange layoutRightWrong)

/-- 'choraguslaw17.LayoutStill': WHATEVER THE INPUT: true; the input reads as it did. -/
def layoutStillSpec : ChangeSpec := { name := "layoutStill", fn := fun _ => fun
  | [d1, d2] => { results := [.lit (.bool true)], args := [d1, d2] }
  | _ => none }
def layoutStillRow : OpenClaim := { program := "ytbpfhclcjedkcaa", sum := "2588e61498972705238c421f29531d1ee6cffc15b1416598c4b7df3387325de9", func := "choragus/choraguslaw17.LayoutStill", spec := "layoutStill", unfollowed := true, recurses := true, plainKeys := false, apart := false }
def LayoutStillSaid : Prop := layoutStillRow.holds Try.pinned (OpenSpec.ofChange layoutStillSpec)

/-- ITS FALSE NEIGHBOUR: 'it returns false'. Refute it at one input. -/
def layoutStillWrong : ChangeSpec := { name := "layoutStill", fn := fun _ => fun
  | [d1, d2] => { results := [.lit (.bool false)], args := [d1, d2] }
  | _ => none }
def LayoutStillWrongFalsely : Prop := layoutStillRow.holds Try.pinned (OpenSpec.ofChange layoutStillWrong)

/-- 'choraguslaw17.LayoutGrows': WHATEVER THE INPUT: true; the input reads as it did. -/
def layoutGrowsSpec : ChangeSpec := { name := "layoutGrows", fn := fun _ => fun
  | [d1, d2, d3] => { results := [.lit (.bool true)], args := [d1, d2, d3] }
  | _ => none }
def layoutGrowsRow : OpenClaim := { program := "ytbpfhclcjedkcaa", sum := "2588e61498972705238c421f29531d1ee6cffc15b1416598c4b7df3387325de9", func := "choragus/choraguslaw17.LayoutGrows", spec := "layoutGrows", unfollowed := true, recurses := true, plainKeys := false, apart := false }
def LayoutGrowsSaid : Prop := layoutGrowsRow.holds Try.pinned (OpenSpec.ofChange layoutGrowsSpec)

/-- ITS FALSE NEIGHBOUR: 'it returns false'. Refute it at one input. -/
def layoutGrowsWrong : ChangeSpec := { name := "layoutGrows", fn := fun _ => fun
  | [d1, d2, d3] => { results := [.lit (.bool false)], args := [d1, d2, d3] }
  | _ => none }
def LayoutGrowsWrongFalsely : Prop := layoutGrowsRow.holds Try.pinned (OpenSpec.ofChange layoutGrowsWrong)

/- THE SECOND FORM. 'bulk': how many values and letters a reading holds, each counted each time it is reached (what is shared counts as often as it is met; a slice's spare places count too). A statement '..UptoSaid' is the law's where the arguments, and the package variables that the reading takes, are together of bulk at most 1048576: NARROWER than '..Said'. Prove '..Said' where nothing that the law and all that it calls make is longer than what came in: it says more and counts as full. Else prove '..UptoSaid'. A law counts once. -/
mutual
def uptoBulk {H : Type} : DataW H → Nat
  | .lit (.string bytes) => bytes.length + 1
  | .lit _ => 1
  | .nil => 1
  | .ptr d => uptoBulk d + 1
  | .slice elems spare => uptoBulkAll elems + uptoBulkAll spare + 1
  | .agg parts => uptoBulkAll parts + 1
  | .iface _ d => uptoBulk d + 1
  | .map entries => uptoBulkEntries entries + 1
  | .held _ => 1
def uptoBulkAll {H : Type} : List (DataW H) → Nat
  | [] => 0
  | d :: r => uptoBulk d + uptoBulkAll r
def uptoBulkEntries {H : Type} : List (Lit × DataW H) → Nat
  | [] => 0
  | x :: r => uptoBulkEntry x + uptoBulkEntries r
def uptoBulkEntry {H : Type} : Lit × DataW H → Nat
  | (.string bytes, d) => bytes.length + uptoBulk d + 1
  | (_, d) => uptoBulk d + 1
 end
def uptoSmall : (H : Type) → List (DataW H) → Bool := fun _ ds => decide (uptoBulkAll ds ≤ 1048576)
def OpenSpec.upto (s : _root_.Go.ChangeSpec) : _root_.Go.OpenSpec := { _root_.Go.OpenSpec.ofChange s with cond := some uptoSmall }

/-- 'choraguslaw08.ViewLocals', WHERE WHAT IT READS IS OF BULK AT MOST 1048576: true; the input reads as it did. -/
def viewLocalsUptoRow : OpenClaim := { program := "ytbpfhclcjedkcaa", sum := "2588e61498972705238c421f29531d1ee6cffc15b1416598c4b7df3387325de9", func := "choragus/choraguslaw08.ViewLocals", spec := "viewLocals", unfollowed := true, recurses := true, plainKeys := false, apart := false, narrowed := true }
def ViewLocalsUptoSaid : Prop := viewLocalsUptoRow.holds Try.pinned (OpenSpec.upto viewLocalsSpec)

/-- 'choraguslaw10.MsgEncodes', WHERE WHAT IT READS IS OF BULK AT MOST 1048576: true; the input reads as it did. -/
def msgEncodesUptoRow : OpenClaim := { program := "ytbpfhclcjedkcaa", sum := "2588e61498972705238c421f29531d1ee6cffc15b1416598c4b7df3387325de9", func := "choragus/choraguslaw10.MsgEncodes", spec := "msgEncodes", unfollowed := true, recurses := true, plainKeys := false, apart := false, narrowed := true }
def MsgEncodesUptoSaid : Prop := msgEncodesUptoRow.holds Try.pinned (OpenSpec.upto msgEncodesSpec)

/-- 'choraguslaw10.MsgBeats', WHERE WHAT IT READS IS OF BULK AT MOST 1048576: true; the input reads as it did. -/
def msgBeatsUptoRow : OpenClaim := { program := "ytbpfhclcjedkcaa", sum := "2588e61498972705238c421f29531d1ee6cffc15b1416598c4b7df3387325de9", func := "choragus/choraguslaw10.MsgBeats", spec := "msgBeats", unfollowed := true, recurses := true, plainKeys := false, apart := false, narrowed := true }
def MsgBeatsUptoSaid : Prop := msgBeatsUptoRow.holds Try.pinned (OpenSpec.upto msgBeatsSpec)

/-- 'choraguslaw10.MsgDecodes', WHERE WHAT IT READS IS OF BULK AT MOST 1048576: true; the input reads as it did. -/
def msgDecodesUptoRow : OpenClaim := { program := "ytbpfhclcjedkcaa", sum := "2588e61498972705238c421f29531d1ee6cffc15b1416598c4b7df3387325de9", func := "choragus/choraguslaw10.MsgDecodes", spec := "msgDecodes", unfollowed := true, recurses := true, plainKeys := false, apart := false, narrowed := true }
def MsgDecodesUptoSaid : Prop := msgDecodesUptoRow.holds Try.pinned (OpenSpec.upto msgDecodesSpec)

/-- 'choraguslaw10.MsgBack', WHERE WHAT IT READS IS OF BULK AT MOST 1048576: true; the input reads as it did. -/
def msgBackUptoRow : OpenClaim := { program := "ytbpfhclcjedkcaa", sum := "2588e61498972705238c421f29531d1ee6cffc15b1416598c4b7df3387325de9", func := "choragus/choraguslaw10.MsgBack", spec := "msgBack", unfollowed := true, recurses := true, plainKeys := false, apart := false, narrowed := true }
def MsgBackUptoSaid : Prop := msgBackUptoRow.holds Try.pinned (OpenSpec.upto msgBackSpec)

/-- 'choraguslaw10.MsgWhole', WHERE WHAT IT READS IS OF BULK AT MOST 1048576: true; the input reads as it did. -/
def msgWholeUptoRow : OpenClaim := { program := "ytbpfhclcjedkcaa", sum := "2588e61498972705238c421f29531d1ee6cffc15b1416598c4b7df3387325de9", func := "choragus/choraguslaw10.MsgWhole", spec := "msgWhole", unfollowed := true, recurses := true, plainKeys := false, apart := false, narrowed := true }
def MsgWholeUptoSaid : Prop := msgWholeUptoRow.holds Try.pinned (OpenSpec.upto msgWholeSpec)

/-- 'choraguslaw17.LayoutMoves', WHERE WHAT IT READS IS OF BULK AT MOST 1048576: true; the input reads as it did. -/
def layoutMovesUptoRow : OpenClaim := { program := "ytbpfhclcjedkcaa", sum := "2588e61498972705238c421f29531d1ee6cffc15b1416598c4b7df3387325de9", func := "choragus/choraguslaw17.LayoutMoves", spec := "layoutMoves", unfollowed := true, recurses := true, plainKeys := false, apart := false, narrowed := true }
def LayoutMovesUptoSaid : Prop := layoutMovesUptoRow.holds Try.pinned (OpenSpec.upto layoutMovesSpec)

/-- 'choraguslaw13.HubPair', WHERE WHAT IT READS IS OF BULK AT MOST 1048576: true; the input reads as it did. -/
def hubPairUptoRow : OpenClaim := { program := "ytbpfhclcjedkcaa", sum := "2588e61498972705238c421f29531d1ee6cffc15b1416598c4b7df3387325de9", func := "choragus/choraguslaw13.HubPair", spec := "hubPair", unfollowed := true, recurses := true, plainKeys := false, apart := false, narrowed := true }
def HubPairUptoSaid : Prop := hubPairUptoRow.holds Try.pinned (OpenSpec.upto hubPairSpec)

/-- 'choraguslaw13.HubPlays', WHERE WHAT IT READS IS OF BULK AT MOST 1048576: true; the input reads as it did. -/
def hubPlaysUptoRow : OpenClaim := { program := "ytbpfhclcjedkcaa", sum := "2588e61498972705238c421f29531d1ee6cffc15b1416598c4b7df3387325de9", func := "choragus/choraguslaw13.HubPlays", spec := "hubPlays", unfollowed := true, recurses := true, plainKeys := false, apart := false, narrowed := true }
def HubPlaysUptoSaid : Prop := hubPlaysUptoRow.holds Try.pinned (OpenSpec.upto hubPlaysSpec)

/-- 'choraguslaw13.HubNil', WHERE WHAT IT READS IS OF BULK AT MOST 1048576: true; the input reads as it did. -/
def hubNilUptoRow : OpenClaim := { program := "ytbpfhclcjedkcaa", sum := "2588e61498972705238c421f29531d1ee6cffc15b1416598c4b7df3387325de9", func := "choragus/choraguslaw13.HubNil", spec := "hubNil", unfollowed := true, recurses := true, plainKeys := false, apart := false, narrowed := true }
def HubNilUptoSaid : Prop := hubNilUptoRow.holds Try.pinned (OpenSpec.upto hubNilSpec)

/-- 'choraguslaw17.LayoutFirsts', WHERE WHAT IT READS IS OF BULK AT MOST 1048576: true; the input reads as it did. -/
def layoutFirstsUptoRow : OpenClaim := { program := "ytbpfhclcjedkcaa", sum := "2588e61498972705238c421f29531d1ee6cffc15b1416598c4b7df3387325de9", func := "choragus/choraguslaw17.LayoutFirsts", spec := "layoutFirsts", unfollowed := true, recurses := true, plainKeys := false, apart := false, narrowed := true }
def LayoutFirstsUptoSaid : Prop := layoutFirstsUptoRow.holds Try.pinned (OpenSpec.upto layoutFirstsSpec)

/-- 'choraguslaw17.LayoutRight', WHERE WHAT IT READS IS OF BULK AT MOST 1048576: true; the input reads as it did. -/
def layoutRightUptoRow : OpenClaim := { program := "ytbpfhclcjedkcaa", sum := "2588e61498972705238c421f29531d1ee6cffc15b1416598c4b7df3387325de9", func := "choragus/choraguslaw17.LayoutRight", spec := "layoutRight", unfollowed := true, recurses := true, plainKeys := false, apart := false, narrowed := true }
def LayoutRightUptoSaid : Prop := layoutRightUptoRow.holds Try.pinned (OpenSpec.upto layoutRightSpec)

/-- 'choraguslaw17.LayoutStill', WHERE WHAT IT READS IS OF BULK AT MOST 1048576: true; the input reads as it did. -/
def layoutStillUptoRow : OpenClaim := { program := "ytbpfhclcjedkcaa", sum := "2588e61498972705238c421f29531d1ee6cffc15b1416598c4b7df3387325de9", func := "choragus/choraguslaw17.LayoutStill", spec := "layoutStill", unfollowed := true, recurses := true, plainKeys := false, apart := false, narrowed := true }
def LayoutStillUptoSaid : Prop := layoutStillUptoRow.holds Try.pinned (OpenSpec.upto layoutStillSpec)

/-- 'choraguslaw17.LayoutGrows', WHERE WHAT IT READS IS OF BULK AT MOST 1048576: true; the input reads as it did. -/
def layoutGrowsUptoRow : OpenClaim := { program := "ytbpfhclcjedkcaa", sum := "2588e61498972705238c421f29531d1ee6cffc15b1416598c4b7df3387325de9", func := "choragus/choraguslaw17.LayoutGrows", spec := "layoutGrows", unfollowed := true, recurses := true, plainKeys := false, apart := false, narrowed := true }
def LayoutGrowsUptoSaid : Prop := layoutGrowsUptoRow.holds Try.pinned (OpenSpec.upto layoutGrowsSpec)

end Rows
end Go.Proofs.Ytbpfhclcjedkcaa
