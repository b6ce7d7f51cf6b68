/-
  No cell of these rows narrows 'for every input' (looked for: loops, veiled, ifaces, maps, wideKeys, modest, calm, conditions, laid).
  DERIVED. THE GIVEN ROWS OF THIS SEAT. 9 by the template 'for every input the law returns true; each argument reads behind the call as it read before'; 0 by the template 'total and deterministic' (their statements: YtjcgijchmnnfaaaTotals.lean).
  GIVEN WITH THE SEED: the statements are not yours to turn. If you find one false, say at which input.
  Laid BY PROGRAM, IN A SANDBOX (cutbox-rows.mjs): the forced cells as the released guide's own fill.sh prints them over the translation 44bd583343940c54… (all of the seat's roots in one cut). By AI agents, Wed Nov 11 2026. No macro, syntax, notation, axiom, sorry.
-/
import Derived.Test.YtjcgijchmnnfaaaChecked
import GoSem.Claim
import GoSem.ClaimJoined
import GoSem.ClaimMapViews
import Derived.JoinedTies
import Derived.KernelRfl
namespace Go.Proofs.Ytjcgijchmnnfaaa
/- THE CELL 'sum', in the pinned program and in every row, IS THE sha256 OF THE DUMP (.gsa) THAT YtjcgijchmnnfaaaProg.lean LOADS. Nothing in Lean hashes anything: it is a label: what it is worth is what the hold of that sum in a sandbox is worth. -/
noncomputable def Try.pinned : Pinned := { name := "ytjcgijchmnnfaaa", sum := "44bd583343940c54cbf8bc5405661cccafee4ddfeaa16d80f871a8b061de7f3a", checked := Try.checked }
namespace Rows
def none {H : Type} : Left H := { results := [], args := [] }

/-- 'choraguslaw08.ViewChecks': WHATEVER THE INPUT: true; the input reads as it did. -/
def viewChecksSpec : ChangeSpec := { name := "viewChecks", fn := fun _ => fun
  | [d] => { results := [.lit (.bool true)], args := [d] }
  | _ => none }
def viewChecksRow : OpenClaim := { program := "ytjcgijchmnnfaaa", sum := "44bd583343940c54cbf8bc5405661cccafee4ddfeaa16d80f871a8b061de7f3a", func := "choragus/choraguslaw08.ViewChecks", spec := "viewChecks", unfollowed := true, recurses := true, plainKeys := false, apart := false }
def ViewChecksSaid : Prop := viewChecksRow.holds Try.pinned (OpenSpec.ofChange viewChecksSpec)

/-- ITS FALSE NEIGHBOUR: 'it returns false'. Refute it at one input. -/
def viewChecksWrong : ChangeSpec := { name := "viewChecks", fn := fun _ => fun
  | [d] => { results := [.lit (.bool false)], args := [d] }
  | _ => none }
def ViewChecksWrongFalsely : Prop := viewChecksRow.holds Try.pinned (OpenSpec.ofChange viewChecksWrong)

/-- 'choraguslaw08.ViewMeet': WHATEVER THE INPUT: true; the input reads as it did. -/
def viewMeetSpec : ChangeSpec := { name := "viewMeet", fn := fun _ => fun
  | [d1, d2, d3] => { results := [.lit (.bool true)], args := [d1, d2, d3] }
  | _ => none }
def viewMeetRow : OpenClaim := { program := "ytjcgijchmnnfaaa", sum := "44bd583343940c54cbf8bc5405661cccafee4ddfeaa16d80f871a8b061de7f3a", func := "choragus/choraguslaw08.ViewMeet", spec := "viewMeet", unfollowed := true, recurses := true, plainKeys := false, apart := false }
def ViewMeetSaid : Prop := viewMeetRow.holds Try.pinned (OpenSpec.ofChange viewMeetSpec)

/-- ITS FALSE NEIGHBOUR: 'it returns false'. Refute it at one input. -/
def viewMeetWrong : ChangeSpec := { name := "viewMeet", fn := fun _ => fun
  | [d1, d2, d3] => { results := [.lit (.bool false)], args := [d1, d2, d3] }
  | _ => none }
def ViewMeetWrongFalsely : Prop := viewMeetRow.holds Try.pinned (OpenSpec.ofChange viewMeetWrong)

/-- 'choraguslaw08.ViewAsks': WHATEVER THE INPUT: true; the input reads as it did. -/
def viewAsksSpec : ChangeSpec := { name := "viewAsks", fn := fun _ => fun
  | [d1, d2, d3] => { results := [.lit (.bool true)], args := [d1, d2, d3] }
  | _ => none }
def viewAsksRow : OpenClaim := { program := "ytjcgijchmnnfaaa", sum := "44bd583343940c54cbf8bc5405661cccafee4ddfeaa16d80f871a8b061de7f3a", func := "choragus/choraguslaw08.ViewAsks", spec := "viewAsks", unfollowed := true, recurses := true, plainKeys := false, apart := false }
def ViewAsksSaid : Prop := viewAsksRow.holds Try.pinned (OpenSpec.ofChange viewAsksSpec)

/-- ITS FALSE NEIGHBOUR: 'it returns false'. Refute it at one input. -/
def viewAsksWrong : ChangeSpec := { name := "viewAsks", fn := fun _ => fun
  | [d1, d2, d3] => { results := [.lit (.bool false)], args := [d1, d2, d3] }
  | _ => none }
def ViewAsksWrongFalsely : Prop := viewAsksRow.holds Try.pinned (OpenSpec.ofChange viewAsksWrong)

/-- 'choraguslaw08.ViewSame': WHATEVER THE INPUT: true; the input reads as it did. -/
def viewSameSpec : ChangeSpec := { name := "viewSame", fn := fun _ => fun
  | [d1, d2] => { results := [.lit (.bool true)], args := [d1, d2] }
  | _ => none }
def viewSameRow : OpenClaim := { program := "ytjcgijchmnnfaaa", sum := "44bd583343940c54cbf8bc5405661cccafee4ddfeaa16d80f871a8b061de7f3a", func := "choragus/choraguslaw08.ViewSame", spec := "viewSame", unfollowed := true, recurses := true, plainKeys := false, apart := false }
def ViewSameSaid : Prop := viewSameRow.holds Try.pinned (OpenSpec.ofChange viewSameSpec)

/-- ITS FALSE NEIGHBOUR: 'it returns false'. Refute it at one input. -/
def viewSameWrong : ChangeSpec := { name := "viewSame", fn := fun _ => fun
  | [d1, d2] => { results := [.lit (.bool false)], args := [d1, d2] }
  | _ => none }
def ViewSameWrongFalsely : Prop := viewSameRow.holds Try.pinned (OpenSpec.ofChange viewSameWrong)

/-- 'choraguslaw08.ViewLocals': WHATEVER THE INPUT: true; the input reads as it did. -/
def viewLocalsSpec : ChangeSpec := { name := "viewLocals", fn := fun _ => fun
  | [d1, d2] => { results := [.lit (.bool true)], args := [d1, d2] }
  | _ => none }
def viewLocalsRow : OpenClaim := { program := "ytjcgijchmnnfaaa", sum := "44bd583343940c54cbf8bc5405661cccafee4ddfeaa16d80f871a8b061de7f3a", func := "choragus/choraguslaw08.ViewLocals", spec := "viewLocals", unfollowed := true, recurses := true, plainKeys := false, apart := false }
def ViewLocalsSaid : Prop := viewLocalsRow.holds Try.pinned (OpenSpec.ofChange viewLocalsSpec)

/-- ITS FALSE NEIGHBOUR: 'it returns false'. Refute it at one input. -/
def viewLocalsWrong : ChangeSpec := { name := "viewLocals", fn := fun _ => fun
  | [d1, d2] => { results := [.lit (.bool false)], args := [d1, d2] }
  | _ => none }
def ViewLocalsWrongFalsely : Prop := viewLocalsRow.holds Try.pinned (OpenSpec.ofChange viewLocalsWrong)

/-- 'choraguslaw09.CmdApart': WHATEVER THE INPUT: true; the input reads as it did. -/
def cmdApartSpec : ChangeSpec := { name := "cmdApart", fn := fun _ => fun
  | [d1, d2] => { results := [.lit (.bool true)], args := [d1, d2] }
  | _ => none }
def cmdApartRow : OpenClaim := { program := "ytjcgijchmnnfaaa", sum := "44bd583343940c54cbf8bc5405661cccafee4ddfeaa16d80f871a8b061de7f3a", func := "choragus/choraguslaw09.CmdApart", spec := "cmdApart", unfollowed := true, recurses := true, plainKeys := false, apart := false }
def CmdApartSaid : Prop := cmdApartRow.holds Try.pinned (OpenSpec.ofChange cmdApartSpec)

/-- ITS FALSE NEIGHBOUR: 'it returns false'. Refute it at one input. -/
def cmdApartWrong : ChangeSpec := { name := "cmdApart", fn := fun _ => fun
  | [d1, d2] => { results := [.lit (.bool false)], args := [d1, d2] }
  | _ => none }
def CmdApartWrongFalsely : Prop := cmdApartRow.holds Try.pinned (OpenSpec.ofChange cmdApartWrong)

/-- 'choraguslaw08.ViewBack': WHATEVER THE INPUT: true; the input reads as it did. -/
def viewBackSpec : ChangeSpec := { name := "viewBack", fn := fun _ => fun
  | [d1, d2] => { results := [.lit (.bool true)], args := [d1, d2] }
  | _ => none }
def viewBackRow : OpenClaim := { program := "ytjcgijchmnnfaaa", sum := "44bd583343940c54cbf8bc5405661cccafee4ddfeaa16d80f871a8b061de7f3a", func := "choragus/choraguslaw08.ViewBack", spec := "viewBack", unfollowed := true, recurses := true, plainKeys := false, apart := false }
def ViewBackSaid : Prop := viewBackRow.holds Try.pinned (OpenSpec.ofChange viewBackSpec)

/-- ITS FALSE NEIGHBOUR: 'it returns false'. Refute it at one input. -/
def viewBackWrong : ChangeSpec := { name := "viewBack", fn := fun _ => fun
  | [d1, d2] => { results := [.lit (.bool false)], args := [d1, d2] }
  | _ => none }
def ViewBackWrongFalsely : Prop := viewBackRow.holds Try.pinned (OpenSpec.ofChange viewBackWrong)

/-- 'choraguslaw04.PsetNil': WHATEVER THE INPUT: true; the input reads as it did. -/
def psetNilSpec : ChangeSpec := { name := "psetNil", fn := fun _ => fun
  | [d1, d2] => { results := [.lit (.bool true)], args := [d1, d2] }
  | _ => none }
def psetNilRow : OpenClaim := { program := "ytjcgijchmnnfaaa", sum := "44bd583343940c54cbf8bc5405661cccafee4ddfeaa16d80f871a8b061de7f3a", func := "choragus/choraguslaw04.PsetNil", spec := "psetNil", unfollowed := true, recurses := true, plainKeys := false, apart := false }
def PsetNilSaid : Prop := psetNilRow.holds Try.pinned (OpenSpec.ofChange psetNilSpec)

/-- ITS FALSE NEIGHBOUR: 'it returns false'. Refute it at one input. -/
def psetNilWrong : ChangeSpec := { name := "psetNil", fn := fun _ => fun
  | [d1, d2] => { results := [.lit (.bool false)], args := [d1, d2] }
  | _ => none }
def PsetNilWrongFalsely : Prop := psetNilRow.holds Try.pinned (OpenSpec.ofChange psetNilWrong)

/-- 'choraguslaw15.WatchNil': WHATEVER THE INPUT: true; the input reads as it did. -/
def watchNilSpec : ChangeSpec := { name := "watchNil", fn := fun _ => fun
  | [d1, d2] => { results := [.lit (.bool true)], args := [d1, d2] }
  | _ => none }
def watchNilRow : OpenClaim := { program := "ytjcgijchmnnfaaa", sum := "44bd583343940c54cbf8bc5405661cccafee4ddfeaa16d80f871a8b061de7f3a", func := "choragus/choraguslaw15.WatchNil", spec := "watchNil", unfollowed := true, recurses := true, plainKeys := false, apart := false }
def WatchNilSaid : Prop := watchNilRow.holds Try.pinned (OpenSpec.ofChange watchNilSpec)

/-- ITS FALSE NEIGHBOUR: 'it returns false'. Refute it at one input. -/
def watchNilWrong : ChangeSpec := { name := "watchNil", fn := fun _ => fun
  | [d1, d2] => { results := [.lit (.bool false)], args := [d1, d2] }
  | _ => none }
def WatchNilWrongFalsely : Prop := watchNilRow.holds Try.pinned (OpenSpec.ofChange watchNilWrong)

/- THE SECOND FORM. 'bulk': how many values and letters a reading holds, each counted each time it is reached (what is shared counts as often as it is met; a slice's spare places count too). A statement '..UptoSaid' is the law's where the arguments, and the package variables that the reading takes, are together of bulk at most 1048576: NARROWER than '..Said'. Prove '..Said' where nothing that the law and all that it calls make is longer than what came in: it says more and counts as full. Else prove '..UptoSaid'. A law counts once. -/
mutual
def uptoBulk {H : Type} : DataW H → Nat
  | .lit (.string bytes) => bytes.length + 1
  | .lit _ => 1
  | .nil => 1
  | .ptr d => uptoBulk d + 1
  | .slice elems spare => uptoBulkAll elems + uptoBulkAll spare + 1
  | .agg parts => uptoBulkAll parts + 1
  | .iface _ d => uptoBulk d + 1
  | .map entries => uptoBulkEntries entries + 1
  | .held _ => 1
def uptoBulkAll {H : Type} : List (DataW H) → Nat
  | [] => 0
  | d :: r => uptoBulk d + uptoBulkAll r
def uptoBulkEntries {H : Type} : List (Lit × DataW H) → Nat
  | [] => 0
  | x :: r => uptoBulkEntry x + uptoBulkEntries r
def uptoBulkEntry {H : Type} : Lit × DataW H → Nat
  | (.string bytes, d) => bytes.length + uptoBulk d + 1
  | (_, d) => uptoBulk d + 1
 end
def uptoSmall : (H : Type) → List (DataW H) → Bool := fun _ ds => decide (uptoBulkAll ds ≤ 1048576)
def OpenSpec.upto (s : _root_.Go.ChangeSpec) : _root_.Go.OpenSpec := { _root_.Go.OpenSpec.ofChange s with cond := some uptoSmall }

/-- 'choraguslaw08.ViewChecks', WHERE WHAT IT READS IS OF BULK AT MOST 1048576: true; the input reads as it did. -/
def viewChecksUptoRow : OpenClaim := { program := "ytjcgijchmnnfaaa", sum := "44bd583343940c54cbf8bc5405661cccafee4ddfeaa16d80f871a8b061de7f3a", func := "choragus/choraguslaw08.ViewChecks", spec := "viewChecks", unfollowed := true, recurses := true, plainKeys := false, apart := false, narrowed := true }
def ViewChecksUptoSaid : Prop := viewChecksUptoRow.holds Try.pinned (OpenSpec.upto viewChecksSpec)

/-- 'choraguslaw08.ViewMeet', WHERE WHAT IT READS IS OF BULK AT MOST 1048576: true; the input reads as it did. -/
def viewMeetUptoRow : OpenClaim := { program := "ytjcgijchmnnfaaa", sum := "44bd583343940c54cbf8bc5405661cccafee4ddfeaa16d80f871a8b061de7f3a", func := "choragus/choraguslaw08.ViewMeet", spec := "viewMeet", unfollowed := true, recurses := true, plainKeys := false, apart := false, narrowed := true }
def ViewMeetUptoSaid : Prop := viewMeetUptoRow.holds Try.pinned (OpenSpec.upto viewMeetSpec)

/-- 'choraguslaw08.ViewAsks', WHERE WHAT IT READS IS OF BULK AT MOST 1048576: true; the input reads as it did. -/
def viewAsksUptoRow : OpenClaim := { program := "ytjcgijchmnnfaaa", sum := "44bd583343940c54cbf8bc5405661cccafee4ddfeaa16d80f871a8b061de7f3a", func := "choragus/choraguslaw08.ViewAsks", spec := "viewAsks", unfollowed := true, recurses := true, plainKeys := false, apart := false, narrowed := true }
def ViewAsksUptoSaid : Prop := viewAsksUptoRow.holds Try.pinned (OpenSpec.upto viewAsksSpec)

/-- 'choraguslaw08.ViewSame', WHERE WHAT IT READS IS OF BULK AT MOST 1048576: true; the input reads as it did. -/
def viewSameUptoRow : OpenClaim := { program := "ytjcgijchmnnfaaa", sum := "44bd583343940c54cbf8bc5405661cccafee4ddfeaa16d80f871a8b061de7f3a", func := "choragus/choraguslaw08.ViewSame", spec := "viewSame", unfollowed := true, recurses := true, plainKeys := false, apart := false, narrowed := true }
def ViewSameUptoSaid : Prop := viewSameUptoRow.holds Try.pinned (OpenSpec.upto viewSameSpec)

/-- 'choraguslaw08.ViewLocals', WHERE WHAT IT READS IS OF BULK AT MOST 1048576: true; the input reads as it did. -/
def viewLocalsUptoRow : OpenClaim := { program := "ytjcgijchmnnfaaa", sum := "44bd583343940c54cbf8bc5405661cccafee4ddfeaa16d80f871a8b061de7f3a", func := "choragus/choraguslaw08.ViewLocals", spec := "viewLocals", unfollowed := true, recurses := true, plainKeys := false, apart := false, narrowed := true }
def ViewLocalsUptoSaid : Prop := viewLocalsUptoRow.holds Try.pinned (OpenSpec.upto viewLocalsSpec)

/-- 'choraguslaw09.CmdApart', WHERE WHAT IT READS IS OF BULK AT MOST 1048576: true; the input reads as it did. -/
def cmdApartUptoRow : OpenClaim := { program := "ytjcgijchmnnfaaa", sum := "44bd583343940c54cbf8bc5405661cccafee4ddfeaa16d80f871a8b061de7f3a", func := "choragus/choraguslaw09.CmdApart", spec := "cmdApart", unfollowed := true, recurses := true, plainKeys := false, apart := false, narrowed := true }
def CmdApartUptoSaid : Prop := cmdApartUptoRow.holds Try.pinned (OpenSpec.upto cmdApartSpec)

/-- 'choraguslaw08.ViewBack', WHERE WHAT IT READS IS OF BULK AT MOST 1048576: true; the input reads as it did. -/
def viewBackUptoRow : OpenClaim := { program := "ytjcgijchmnnfaaa", sum := "44bd583343940c54cbf8bc5405661cccafee4ddfeaa16d80f871a8b061de7f3a", func := "choragus/choraguslaw08.ViewBack", spec := "viewBack", unfollowed := true, recurses := true, plainKeys := false, apart := false, narrowed := true }
def ViewBackUptoSaid : Prop := viewBackUptoRow.holds Try.pinned (OpenSpec.upto viewBackSpec)

/-- 'choraguslaw04.PsetNil', WHERE WHAT IT READS IS OF BULK AT MOST 1048576: true; the input reads as it did. -/
def psetNilUptoRow : OpenClaim := { program := "ytjcgijchmnnfaaa", sum := "44bd583343940c54cbf8bc5405661cccafee4ddfeaa16d80f871a8b061de7f3a", func := "choragus/choraguslaw04.PsetNil", spec := "psetNil", unfollowed := true, recurses := true, plainKeys := false, apart := false, narrowed := true }
def PsetNilUptoSaid : Prop := psetNilUptoRow.holds Try.pinned (OpenSpec.upto psetNilSpec)

/-- 'choraguslaw15.WatchNil', WHERE WHAT IT READS IS OF BULK AT MOST 1048576: true; the input reads as it did. -/
def watchNilUptoRow : OpenClaim := { program := "ytjcgijchmnnfaaa", sum := "44bd583343940c54cbf8bc5405661cccafee4ddfeaa16d80f871a8b061de7f3a", func := "choragus/choraguslaw15.WatchNil", spec := "watchNil", unfollowed := true, recurses := true, plainKeys := false, apart := false, narrowed := true }
def WatchNilUptoSaid : Prop := watchNilUptoRow.holds Try.pinned (OpenSpec.upto watchNilSpec)

end Rows
end Go.Proofs.Ytjcgijchmnnfaaa
