/-
  No cell of these rows narrows 'for every input' (looked for: loops, veiled, ifaces, maps, wideKeys, modest, calm, conditions, laid).
  DERIVED. THE GIVEN ROWS OF THIS SEAT. 11 by the template 'for every input the law returns true; each argument reads behind the call as it read before'; 0 by the template 'total and deterministic' (their statements: YtjjahefedpfnaaaTotals.lean).
  GIVEN WITH THE SEED: the statements are not yours to turn. If you find one false, say at which input.
  Laid BY PROGRAM, IN A SANDBOX (cutbox-rows.mjs): the forced cells as the released guide's own fill.sh prints them over the translation cdafd8ecd18a3620… (all of the seat's roots in one cut). By AI agents, Wed Nov 11 2026. No macro, syntax, notation, axiom, sorry.
-/
import Derived.Test.YtjjahefedpfnaaaChecked
import GoSem.Claim
import GoSem.ClaimJoined
import GoSem.ClaimMapViews
import Derived.JoinedTies
import Derived.KernelRfl
namespace Go.Proofs.Ytjjahefedpfnaaa
/- THE CELL 'sum', in the pinned program and in every row, IS THE sha256 OF THE DUMP (.gsa) THAT YtjjahefedpfnaaaProg.lean LOADS. Nothing in Lean hashes anything: it is a label: what it is worth is what the hold of that sum in a sandbox is worth. -/
noncomputable def Try.pinned : Pinned := { name := "ytjjahefedpfnaaa", sum := "cdafd8ecd18a3620d7870f01b7387b20a30089b7c11fd0b316bf51eba068f488", checked := Try.checked }
namespace Rows
def none {H : Type} : Left H := { results := [], args := [] }

/-- 'choraguslaw15.WatchPlays': WHATEVER THE INPUT: true; the input reads as it did. -/
def watchPlaysSpec : ChangeSpec := { name := "watchPlays", fn := fun _ => fun
  | [d1, d2] => { results := [.lit (.bool true)], args := [d1, d2] }
  | _ => none }
def watchPlaysRow : OpenClaim := { program := "ytjjahefedpfnaaa", sum := "cdafd8ecd18a3620d7870f01b7387b20a30089b7c11fd0b316bf51eba068f488", func := "choragus/choraguslaw15.WatchPlays", spec := "watchPlays", unfollowed := true, recurses := true, plainKeys := false, apart := false }
def WatchPlaysSaid : Prop := watchPlaysRow.holds Try.pinned (OpenSpec.ofChange watchPlaysSpec)

/-- ITS FALSE NEIGHBOUR: 'it returns false'. Refute it at one input. -/
def watchPlaysWrong : ChangeSpec := { name := "watchPlays", fn := fun _ => fun
  | [d1, d2] => { results := [.lit (.bool false)], args := [d1, d2] }
  | _ => none }
def WatchPlaysWrongFalsely : Prop := watchPlaysRow.holds Try.pinned (OpenSpec.ofChange watchPlaysWrong)

/-- 'choraguslaw15.WatchBeats': WHATEVER THE INPUT: true; the input reads as it did. -/
def watchBeatsSpec : ChangeSpec := { name := "watchBeats", fn := fun _ => fun
  | [d1, d2] => { results := [.lit (.bool true)], args := [d1, d2] }
  | _ => none }
def watchBeatsRow : OpenClaim := { program := "ytjjahefedpfnaaa", sum := "cdafd8ecd18a3620d7870f01b7387b20a30089b7c11fd0b316bf51eba068f488", func := "choragus/choraguslaw15.WatchBeats", spec := "watchBeats", unfollowed := true, recurses := true, plainKeys := false, apart := false }
def WatchBeatsSaid : Prop := watchBeatsRow.holds Try.pinned (OpenSpec.ofChange watchBeatsSpec)

/-- ITS FALSE NEIGHBOUR: 'it returns false'. Refute it at one input. -/
def watchBeatsWrong : ChangeSpec := { name := "watchBeats", fn := fun _ => fun
  | [d1, d2] => { results := [.lit (.bool false)], args := [d1, d2] }
  | _ => none }
def WatchBeatsWrongFalsely : Prop := watchBeatsRow.holds Try.pinned (OpenSpec.ofChange watchBeatsWrong)

/-- 'choraguslaw15.WatchOthers': WHATEVER THE INPUT: true; the input reads as it did. -/
def watchOthersSpec : ChangeSpec := { name := "watchOthers", fn := fun _ => fun
  | [d1, d2] => { results := [.lit (.bool true)], args := [d1, d2] }
  | _ => none }
def watchOthersRow : OpenClaim := { program := "ytjjahefedpfnaaa", sum := "cdafd8ecd18a3620d7870f01b7387b20a30089b7c11fd0b316bf51eba068f488", func := "choragus/choraguslaw15.WatchOthers", spec := "watchOthers", unfollowed := true, recurses := true, plainKeys := false, apart := false }
def WatchOthersSaid : Prop := watchOthersRow.holds Try.pinned (OpenSpec.ofChange watchOthersSpec)

/-- ITS FALSE NEIGHBOUR: 'it returns false'. Refute it at one input. -/
def watchOthersWrong : ChangeSpec := { name := "watchOthers", fn := fun _ => fun
  | [d1, d2] => { results := [.lit (.bool false)], args := [d1, d2] }
  | _ => none }
def WatchOthersWrongFalsely : Prop := watchOthersRow.holds Try.pinned (OpenSpec.ofChange watchOthersWrong)

/-- 'choraguslaw04.PsetParts': WHATEVER THE INPUT: true; the input reads as it did. -/
def psetPartsSpec : ChangeSpec := { name := "psetParts", fn := fun _ => fun
  | [d1, d2] => { results := [.lit (.bool true)], args := [d1, d2] }
  | _ => none }
def psetPartsRow : OpenClaim := { program := "ytjjahefedpfnaaa", sum := "cdafd8ecd18a3620d7870f01b7387b20a30089b7c11fd0b316bf51eba068f488", func := "choragus/choraguslaw04.PsetParts", spec := "psetParts", unfollowed := true, recurses := true, plainKeys := false, apart := false }
def PsetPartsSaid : Prop := psetPartsRow.holds Try.pinned (OpenSpec.ofChange psetPartsSpec)

/-- ITS FALSE NEIGHBOUR: 'it returns false'. Refute it at one input. -/
def psetPartsWrong : ChangeSpec := { name := "psetParts", fn := fun _ => fun
  | [d1, d2] => { results := [.lit (.bool false)], args := [d1, d2] }
  | _ => none }
def PsetPartsWrongFalsely : Prop := psetPartsRow.holds Try.pinned (OpenSpec.ofChange psetPartsWrong)

/-- 'choraguslaw04.PsetPlays': WHATEVER THE INPUT: true; the input reads as it did. -/
def psetPlaysSpec : ChangeSpec := { name := "psetPlays", fn := fun _ => fun
  | [d1, d2] => { results := [.lit (.bool true)], args := [d1, d2] }
  | _ => none }
def psetPlaysRow : OpenClaim := { program := "ytjjahefedpfnaaa", sum := "cdafd8ecd18a3620d7870f01b7387b20a30089b7c11fd0b316bf51eba068f488", func := "choragus/choraguslaw04.PsetPlays", spec := "psetPlays", unfollowed := true, recurses := true, plainKeys := false, apart := false }
def PsetPlaysSaid : Prop := psetPlaysRow.holds Try.pinned (OpenSpec.ofChange psetPlaysSpec)

/-- ITS FALSE NEIGHBOUR: 'it returns false'. Refute it at one input. -/
def psetPlaysWrong : ChangeSpec := { name := "psetPlays", fn := fun _ => fun
  | [d1, d2] => { results := [.lit (.bool false)], args := [d1, d2] }
  | _ => none }
def PsetPlaysWrongFalsely : Prop := psetPlaysRow.holds Try.pinned (OpenSpec.ofChange psetPlaysWrong)

/-- 'choraguslaw04.PsetOrder': WHATEVER THE INPUT: true; the input reads as it did. -/
def psetOrderSpec : ChangeSpec := { name := "psetOrder", fn := fun _ => fun
  | [d1, d2] => { results := [.lit (.bool true)], args := [d1, d2] }
  | _ => none }
def psetOrderRow : OpenClaim := { program := "ytjjahefedpfnaaa", sum := "cdafd8ecd18a3620d7870f01b7387b20a30089b7c11fd0b316bf51eba068f488", func := "choragus/choraguslaw04.PsetOrder", spec := "psetOrder", unfollowed := true, recurses := true, plainKeys := false, apart := false }
def PsetOrderSaid : Prop := psetOrderRow.holds Try.pinned (OpenSpec.ofChange psetOrderSpec)

/-- ITS FALSE NEIGHBOUR: 'it returns false'. Refute it at one input. -/
def psetOrderWrong : ChangeSpec := { name := "psetOrder", fn := fun _ => fun
  | [d1, d2] => { results := [.lit (.bool false)], args := [d1, d2] }
  | _ => none }
def PsetOrderWrongFalsely : Prop := psetOrderRow.holds Try.pinned (OpenSpec.ofChange psetOrderWrong)

/-- 'choraguslaw25.RouteUp': WHATEVER THE INPUT: true; the input reads as it did. -/
def routeUpSpec : ChangeSpec := { name := "routeUp", fn := fun _ => fun
  | [d1, d2] => { results := [.lit (.bool true)], args := [d1, d2] }
  | _ => none }
def routeUpRow : OpenClaim := { program := "ytjjahefedpfnaaa", sum := "cdafd8ecd18a3620d7870f01b7387b20a30089b7c11fd0b316bf51eba068f488", func := "choragus/choraguslaw25.RouteUp", spec := "routeUp", unfollowed := true, recurses := true, plainKeys := false, apart := false }
def RouteUpSaid : Prop := routeUpRow.holds Try.pinned (OpenSpec.ofChange routeUpSpec)

/-- ITS FALSE NEIGHBOUR: 'it returns false'. Refute it at one input. -/
def routeUpWrong : ChangeSpec := { name := "routeUp", fn := fun _ => fun
  | [d1, d2] => { results := [.lit (.bool false)], args := [d1, d2] }
  | _ => none }
def RouteUpWrongFalsely : Prop := routeUpRow.holds Try.pinned (OpenSpec.ofChange routeUpWrong)

/-- 'choraguslaw25.RouteDown': WHATEVER THE INPUT: true; the input reads as it did. -/
def routeDownSpec : ChangeSpec := { name := "routeDown", fn := fun _ => fun
  | [d1, d2] => { results := [.lit (.bool true)], args := [d1, d2] }
  | _ => none }
def routeDownRow : OpenClaim := { program := "ytjjahefedpfnaaa", sum := "cdafd8ecd18a3620d7870f01b7387b20a30089b7c11fd0b316bf51eba068f488", func := "choragus/choraguslaw25.RouteDown", spec := "routeDown", unfollowed := true, recurses := true, plainKeys := false, apart := false }
def RouteDownSaid : Prop := routeDownRow.holds Try.pinned (OpenSpec.ofChange routeDownSpec)

/-- ITS FALSE NEIGHBOUR: 'it returns false'. Refute it at one input. -/
def routeDownWrong : ChangeSpec := { name := "routeDown", fn := fun _ => fun
  | [d1, d2] => { results := [.lit (.bool false)], args := [d1, d2] }
  | _ => none }
def RouteDownWrongFalsely : Prop := routeDownRow.holds Try.pinned (OpenSpec.ofChange routeDownWrong)

/-- 'choraguslaw25.RouteTells': WHATEVER THE INPUT: true; the input reads as it did. -/
def routeTellsSpec : ChangeSpec := { name := "routeTells", fn := fun _ => fun
  | [d1, d2, d3, d4] => { results := [.lit (.bool true)], args := [d1, d2, d3, d4] }
  | _ => none }
def routeTellsRow : OpenClaim := { program := "ytjjahefedpfnaaa", sum := "cdafd8ecd18a3620d7870f01b7387b20a30089b7c11fd0b316bf51eba068f488", func := "choragus/choraguslaw25.RouteTells", spec := "routeTells", unfollowed := true, recurses := true, plainKeys := false, apart := false }
def RouteTellsSaid : Prop := routeTellsRow.holds Try.pinned (OpenSpec.ofChange routeTellsSpec)

/-- ITS FALSE NEIGHBOUR: 'it returns false'. Refute it at one input. -/
def routeTellsWrong : ChangeSpec := { name := "routeTells", fn := fun _ => fun
  | [d1, d2, d3, d4] => { results := [.lit (.bool false)], args := [d1, d2, d3, d4] }
  | _ => none }
def RouteTellsWrongFalsely : Prop := routeTellsRow.holds Try.pinned (OpenSpec.ofChange routeTellsWrong)

/-- 'choraguslaw25.RoutePeers': WHATEVER THE INPUT: true; the input reads as it did. -/
def routePeersSpec : ChangeSpec := { name := "routePeers", fn := fun _ => fun
  | [d1, d2] => { results := [.lit (.bool true)], args := [d1, d2] }
  | _ => none }
def routePeersRow : OpenClaim := { program := "ytjjahefedpfnaaa", sum := "cdafd8ecd18a3620d7870f01b7387b20a30089b7c11fd0b316bf51eba068f488", func := "choragus/choraguslaw25.RoutePeers", spec := "routePeers", unfollowed := true, recurses := true, plainKeys := false, apart := false }
def RoutePeersSaid : Prop := routePeersRow.holds Try.pinned (OpenSpec.ofChange routePeersSpec)

/-- ITS FALSE NEIGHBOUR: 'it returns false'. Refute it at one input. -/
def routePeersWrong : ChangeSpec := { name := "routePeers", fn := fun _ => fun
  | [d1, d2] => { results := [.lit (.bool false)], args := [d1, d2] }
  | _ => none }
def RoutePeersWrongFalsely : Prop := routePeersRow.holds Try.pinned (OpenSpec.ofChange routePeersWrong)

/-- 'choraguslaw25.RouteWays': WHATEVER THE INPUT: true; the input reads as it did. -/
def routeWaysSpec : ChangeSpec := { name := "routeWays", fn := fun _ => fun
  | [d1, d2, d3, d4] => { results := [.lit (.bool true)], args := [d1, d2, d3, d4] }
  | _ => none }
def routeWaysRow : OpenClaim := { program := "ytjjahefedpfnaaa", sum := "cdafd8ecd18a3620d7870f01b7387b20a30089b7c11fd0b316bf51eba068f488", func := "choragus/choraguslaw25.RouteWays", spec := "routeWays", unfollowed := true, recurses := true, plainKeys := false, apart := false }
def RouteWaysSaid : Prop := routeWaysRow.holds Try.pinned (OpenSpec.ofChange routeWaysSpec)

/-- ITS FALSE NEIGHBOUR: 'it returns false'. Refute it at one input. -/
def routeWaysWrong : ChangeSpec := { name := "routeWays", fn := fun _ => fun
  | [d1, d2, d3, d4] => { results := [.lit (.bool false)], args := [d1, d2, d3, d4] }
  | _ => none }
def RouteWaysWrongFalsely : Prop := routeWaysRow.holds Try.pinned (OpenSpec.ofChange routeWaysWrong)

/- THE SECOND FORM. 'bulk': how many values and letters a reading holds, each counted each time it is reached (what is shared counts as often as it is met; a slice's spare places count too). A statement '..UptoSaid' is the law's where the arguments, and the package variables that the reading takes, are together of bulk at most 1048576: NARROWER than '..Said'. Prove '..Said' where nothing that the law and all that it calls make is longer than what came in: it says more and counts as full. Else prove '..UptoSaid'. A law counts once. -/
mutual
def uptoBulk {H : Type} : DataW H → Nat
  | .lit (.string bytes) => bytes.length + 1
  | .lit _ => 1
  | .nil => 1
  | .ptr d => uptoBulk d + 1
  | .slice elems spare => uptoBulkAll elems + uptoBulkAll spare + 1
  | .agg parts => uptoBulkAll parts + 1
  | .iface _ d => uptoBulk d + 1
  | .map entries => uptoBulkEntries entries + 1
  | .held _ => 1
def uptoBulkAll {H : Type} : List (DataW H) → Nat
  | [] => 0
  | d :: r => uptoBulk d + uptoBulkAll r
def uptoBulkEntries {H : Type} : List (Lit × DataW H) → Nat
  | [] => 0
  | x :: r => uptoBulkEntry x + uptoBulkEntries r
def uptoBulkEntry {H : Type} : Lit × DataW H → Nat
  | (.string bytes, d) => bytes.length + uptoBulk d + 1
  | (_, d) => uptoBulk d + 1
 end
def uptoSmall : (H : Type) → List (DataW H) → Bool := fun _ ds => decide (uptoBulkAll ds ≤ 1048576)
def OpenSpec.upto (s : _root_.Go.ChangeSpec) : _root_.Go.OpenSpec := { _root_.Go.OpenSpec.ofChange s with cond := some uptoSmall }

/-- 'choraguslaw15.WatchPlays', WHERE WHAT IT READS IS OF BULK AT MOST 1048576: true; the input reads as it did. -/
def watchPlaysUptoRow : OpenClaim := { program := "ytjjahefedpfnaaa", sum := "cdafd8ecd18a3620d7870f01b7387b20a30089b7c11fd0b316bf51eba068f488", func := "choragus/choraguslaw15.WatchPlays", spec := "watchPlays", unfollowed := true, recurses := true, plainKeys := false, apart := false, narrowed := true }
def WatchPlaysUptoSaid : Prop := watchPlaysUptoRow.holds Try.pinned (OpenSpec.upto watchPlaysSpec)

/-- 'choraguslaw15.WatchBeats', WHERE WHAT IT READS IS OF BULK AT MOST 1048576: true; the input reads as it did. -/
def watchBeatsUptoRow : OpenClaim := { program := "ytjjahefedpfnaaa", sum := "cdafd8ecd18a3620d7870f01b7387b20a30089b7c11fd0b316bf51eba068f488", func := "choragus/choraguslaw15.WatchBeats", spec := "watchBeats", unfollowed := true, recurses := true, plainKeys := false, apart := false, narrowed := true }
def WatchBeatsUptoSaid : Prop := watchBeatsUptoRow.holds Try.pinned (OpenSpec.upto watchBeatsSpec)

/-- 'choraguslaw15.WatchOthers', WHERE WHAT IT READS IS OF BULK AT MOST 1048576: true; the input reads as it did. -/
def watchOthersUptoRow : OpenClaim := { program := "ytjjahefedpfnaaa", sum := "cdafd8ecd18a3620d7870f01b7387b20a30089b7c11fd0b316bf51eba068f488", func := "choragus/choraguslaw15.WatchOthers", spec := "watchOthers", unfollowed := true, recurses := true, plainKeys := false, apart := false, narrowed := true }
def WatchOthersUptoSaid : Prop := watchOthersUptoRow.holds Try.pinned (OpenSpec.upto watchOthersSpec)

/-- 'choraguslaw04.PsetParts', WHERE WHAT IT READS IS OF BULK AT MOST 1048576: true; the input reads as it did. -/
def psetPartsUptoRow : OpenClaim := { program := "ytjjahefedpfnaaa", sum := "cdafd8ecd18a3620d7870f01b7387b20a30089b7c11fd0b316bf51eba068f488", func := "choragus/choraguslaw04.PsetParts", spec := "psetParts", unfollowed := true, recurses := true, plainKeys := false, apart := false, narrowed := true }
def PsetPartsUptoSaid : Prop := psetPartsUptoRow.holds Try.pinned (OpenSpec.upto psetPartsSpec)

/-- 'choraguslaw04.PsetPlays', WHERE WHAT IT READS IS OF BULK AT MOST 1048576: true; the input reads as it did. -/
def psetPlaysUptoRow : OpenClaim := { program := "ytjjahefedpfnaaa", sum := "cdafd8ecd18a3620d7870f01b7387b20a30089b7c11fd0b316bf51eba068f488", func := "choragus/choraguslaw04.PsetPlays", spec := "psetPlays", unfollowed := true, recurses := true, plainKeys := false, apart := false, narrowed := true }
def PsetPlaysUptoSaid : Prop := psetPlaysUptoRow.holds Try.pinned (OpenSpec.upto psetPlaysSpec)

/-- 'choraguslaw04.PsetOrder', WHERE WHAT IT READS IS OF BULK AT MOST 1048576: true; the input reads as it did. -/
def psetOrderUptoRow : OpenClaim := { program := "ytjjahefedpfnaaa", sum := "cdafd8ecd18a3620d7870f01b7387b20a30089b7c11fd0b316bf51eba068f488", func := "choragus/choraguslaw04.PsetOrder", spec := "psetOrder", unfollowed := true, recurses := true, plainKeys := false, apart := false, narrowed := true }
def PsetOrderUptoSaid : Prop := psetOrderUptoRow.holds Try.pinned (OpenSpec.upto psetOrderSpec)

/-- 'choraguslaw25.RouteUp', WHERE WHAT IT READS IS OF BULK AT MOST 1048576: true; the input reads as it did. -/
def routeUpUptoRow : OpenClaim := { program := "ytjjahefedpfnaaa", sum := "cdafd8ecd18a3620d7870f01b7387b20a30089b7c11fd0b316bf51eba068f488", func := "choragus/choraguslaw25.RouteUp", spec := "routeUp", unfollowed := true, recurses := true, plainKeys := false, apart := false, narrowed := true }
def RouteUpUptoSaid : Prop := routeUpUptoRow.holds Try.pinned (OpenSpec.upto routeUpSpec)

/-- 'choraguslaw25.RouteDown', WHERE WHAT IT READS IS OF BULK AT MOST 1048576: true; the input reads as it did. -/
def routeDownUptoRow : OpenClaim := { program := "ytjjahefedpfnaaa", sum := "cdafd8ecd18a3620d7870f01b7387b20a30089b7c11fd0b316bf51eba068f488", func := "choragus/choraguslaw25.RouteDown", spec := "routeDown", unfollowed := true, recurses := true, plainKeys := false, apart := false, narrowed := true }
def RouteDownUptoSaid : Prop := routeDownUptoRow.holds Try.pinned (OpenSpec.upto routeDownSpec)

/-- 'choraguslaw25.RouteTells', WHERE WHAT IT READS IS OF BULK AT MOST 1048576: true; the input reads as it did. -/
def routeTellsUptoRow : OpenClaim := { program := "ytjjahefedpfnaaa", sum := "cdafd8ecd18a3620d7870f01b7387b20a30089b7c11fd0b316bf51eba068f488", func := "choragus/choraguslaw25.RouteTells", spec := "routeTells", unfollowed := true, recurses := true, plainKeys := false, apart := false, narrowed := true }
def RouteTellsUptoSaid : Prop := routeTellsUptoRow.holds Try.pinned (OpenSpec.upto routeTellsSpec)

/-- 'choraguslaw25.RoutePeers', WHERE WHAT IT READS IS OF BULK AT MOST 1048576: true; the input reads as it did. -/
def routePeersUptoRow : OpenClaim := { program := "ytjjahefedpfnaaa", sum := "cdafd8ecd18a3620d7870f01b7387b20a30089b7c11fd0b316bf51eba068f488", func := "choragus/choraguslaw25.RoutePeers", spec := "routePeers", unfollowed := true, recurses := true, plainKeys := false, apart := false, narrowed := true }
def RoutePeersUptoSaid : Prop := routePeersUptoRow.holds Try.pinned (OpenSpec.upto routePeersSpec)

/-- 'choraguslaw25.RouteWays', WHERE WHAT IT READS IS OF BULK AT MOST 1048576: true; the input reads as it did. -/
def routeWaysUptoRow : OpenClaim := { program := "ytjjahefedpfnaaa", sum := "cdafd8ecd18a3620d7870f01b7387b20a30089b7c11fd0b316bf51eba068f488", func := "choragus/choraguslaw25.RouteWays", spec := "routeWays", unfollowed := true, recurses := true, plainKeys := false, apart := false, narrowed := true }
def RouteWaysUptoSaid : Prop := routeWaysUptoRow.holds Try.pinned (OpenSpec.upto routeWaysSpec)

end Rows
end Go.Proofs.Ytjjahefedpfnaaa
