/-
  No cell of these rows narrows 'for every input' (looked for: loops, veiled, ifaces, maps, wideKeys, modest, calm, conditions, laid).
  DERIVED. THE GIVEN ROWS OF THIS SEAT. 4 by the template 'for every input the law returns true; each argument reads behind the call as it read before'; 0 by the template 'total and deterministic' (their statements: YtcdpaflmofljaaaGreatTotals.lean).
  GIVEN WITH THE SEED: the statements are not yours to turn. If you find one false, say at which input.
  Laid BY PROGRAM, IN A SANDBOX (cutbox-rows.mjs): the forced cells as the released guide's own fill.sh prints them over the translation 53646a64bb9ebe27… (all of the seat's roots in one cut). By AI agents, Wed Nov 11 2026. No macro, syntax, notation, axiom, sorry.
-/
import Derived.Test.YtcdpaflmofljaaaGreatChecked
import GoSem.Claim
import GoSem.ClaimJoined
import GoSem.ClaimMapViews
import Derived.JoinedTies
import Derived.KernelRfl
namespace Go.Proofs.YtcdpaflmofljaaaGreat
/- THE CELL 'sum', in the pinned program and in every row, IS THE sha256 OF THE DUMP (.gsa) THAT YtcdpaflmofljaaaGreatProg.lean LOADS. Nothing in Lean hashes anything: it is a label: what it is worth is what the hold of that sum in a sandbox is worth. -/
noncomputable def Tryz.pinned : Pinned := { name := "ytcdpaflmofljaaagreat", sum := "53646a64bb9ebe270257b656cad280eca9e49859ea9cd098978736aec360940e", checked := Tryz.checked }
namespace Rows
def none {H : Type} : Left H := { results := [], args := [] }

/-- 'choraguslaw27.NodeFounds': WHATEVER THE INPUT: true; the input reads as it did. -/
def nodeFoundsSpec : ChangeSpec := { name := "nodeFounds", fn := fun _ => fun
  | [d1, d2, d3] => { results := [.lit (.bool true)], args := [d1, d2, d3] }
  | _ => none }
def nodeFoundsRow : OpenClaim := { program := "ytcdpaflmofljaaagreat", sum := "53646a64bb9ebe270257b656cad280eca9e49859ea9cd098978736aec360940e", func := "choragus/choraguslaw27.NodeFounds", spec := "nodeFounds", unfollowed := true, recurses := true, plainKeys := false, apart := false }
def NodeFoundsSaid : Prop := nodeFoundsRow.holds Tryz.pinned (OpenSpec.ofChange nodeFoundsSpec)

/-- ITS FALSE NEIGHBOUR: 'it returns false'. Refute it at one input. -/
def nodeFoundsWrong : ChangeSpec := { name := "nodeFounds", fn := fun _ => fun
  | [d1, d2, d3] => { results := [.lit (.bool false)], args := [d1, d2, d3] }
  | _ => none }
def NodeFoundsWrongFalsely : Prop := nodeFoundsRow.holds Tryz.pinned (OpenSpec.ofChange nodeFoundsWrong)

/-- 'choraguslaw27.NodeAlone': WHATEVER THE INPUT: true; the input reads as it did. -/
def nodeAloneSpec : ChangeSpec := { name := "nodeAlone", fn := fun _ => fun
  | [d1, d2] => { results := [.lit (.bool true)], args := [d1, d2] }
  | _ => none }
def nodeAloneRow : OpenClaim := { program := "ytcdpaflmofljaaagreat", sum := "53646a64bb9ebe270257b656cad280eca9e49859ea9cd098978736aec360940e", func := "choragus/choraguslaw27.NodeAlone", spec := "nodeAlone", unfollowed := true, recurses := true, plainKeys := false, apart := false }
def NodeAloneSaid : Prop := nodeAloneRow.holds Tryz.pinned (OpenSpec.ofChange nodeAloneSpec)

/-- ITS FALSE NEIGHBOUR: 'it returns false'. Refute it at one input. -/
def nodeAloneWrong : ChangeSpec := { name := "nodeAlone", fn := fun _ => fun
  | [d1, d2] => { results := [.lit (.bool false)], args := [d1, d2] }
  | _ => none }
def NodeAloneWrongFalsely : Prop := nodeAloneRow.holds Tryz.pinned (OpenSpec.ofChange nodeAloneWrong)

/-- 'choraguslaw27.NodeSpoilt': WHATEVER THE INPUT: true; the input reads as it did. -/
def nodeSpoiltSpec : ChangeSpec := { name := "nodeSpoilt", fn := fun _ => fun
  | [d1, d2] => { results := [.lit (.bool true)], args := [d1, d2] }
  | _ => none }
def nodeSpoiltRow : OpenClaim := { program := "ytcdpaflmofljaaagreat", sum := "53646a64bb9ebe270257b656cad280eca9e49859ea9cd098978736aec360940e", func := "choragus/choraguslaw27.NodeSpoilt", spec := "nodeSpoilt", unfollowed := true, recurses := true, plainKeys := false, apart := false }
def NodeSpoiltSaid : Prop := nodeSpoiltRow.holds Tryz.pinned (OpenSpec.ofChange nodeSpoiltSpec)

/-- ITS FALSE NEIGHBOUR: 'it returns false'. Refute it at one input. -/
def nodeSpoiltWrong : ChangeSpec := { name := "nodeSpoilt", fn := fun _ => fun
  | [d1, d2] => { results := [.lit (.bool false)], args := [d1, d2] }
  | _ => none }
def NodeSpoiltWrongFalsely : Prop := nodeSpoiltRow.holds Tryz.pinned (OpenSpec.ofChange nodeSpoiltWrong)

/-- 'choraguslaw27.NodeNil': WHATEVER THE INPUT: true; the input reads as it did. -/
def nodeNilSpec : ChangeSpec := { name := "nodeNil", fn := fun _ => fun
  | [d] => { results := [.lit (.bool true)], args := [d] }
  | _ => none }
def nodeNilRow : OpenClaim := { program := "ytcdpaflmofljaaagreat", sum := "53646a64bb9ebe270257b656cad280eca9e49859ea9cd098978736aec360940e", func := "choragus/choraguslaw27.NodeNil", spec := "nodeNil", unfollowed := true, recurses := true, plainKeys := false, apart := false }
def NodeNilSaid : Prop := nodeNilRow.holds Tryz.pinned (OpenSpec.ofChange nodeNilSpec)

/-- ITS FALSE NEIGHBOUR: 'it returns false'. Refute it at one input. -/
def nodeNilWrong : ChangeSpec := { name := "nodeNil", fn := fun _ => fun
  | [d] => { results := [.lit (.bool false)], args := [d] }
  | _ => none }
def NodeNilWrongFalsely : Prop := nodeNilRow.holds Tryz.pinned (OpenSpec.ofChange nodeNilWrong)

/- THE SECOND FORM. 'bulk': how many values and letters a reading holds, each counted each time it is reached (what is shared counts as often as it is met; a slice's spare places count too). A statement '..UptoSaid' is the law's where the arguments, and the package variables that the reading takes, are together of bulk at most 1048576: NARROWER than '..Said'. Prove '..Said' where nothing that the law and all that it calls make is longer than what came in: it says more and counts as full. Else prove '..UptoSaid'. A law counts once. -/
mutual
def uptoBulk {H : Type} : DataW H → Nat
  | .lit (.string bytes) => bytes.length + 1
  | .lit _ => 1
  | .nil => 1
  | .ptr d => uptoBulk d + 1
  | .slice elems spare => uptoBulkAll elems + uptoBulkAll spare + 1
  | .agg parts => uptoBulkAll parts + 1
  | .iface _ d => uptoBulk d + 1
  | .map entries => uptoBulkEntries entries + 1
  | .held _ => 1
def uptoBulkAll {H : Type} : List (DataW H) → Nat
  | [] => 0
  | d :: r => uptoBulk d + uptoBulkAll r
def uptoBulkEntries {H : Type} : List (Lit × DataW H) → Nat
  | [] => 0
  | x :: r => uptoBulkEntry x + uptoBulkEntries r
def uptoBulkEntry {H : Type} : Lit × DataW H → Nat
  | (.string bytes, d) => bytes.length + uptoBulk d + 1
  | (_, d) => uptoBulk d + 1
 end
def uptoSmall : (H : Type) → List (DataW H) → Bool := fun _ ds => decide (uptoBulkAll ds ≤ 1048576)
def OpenSpec.upto (s : _root_.Go.ChangeSpec) : _root_.Go.OpenSpec := { _root_.Go.OpenSpec.ofChange s with cond := some uptoSmall }

/-- 'choraguslaw27.NodeFounds', WHERE WHAT IT READS IS OF BULK AT MOST 1048576: true; the input reads as it did. -/
def nodeFoundsUptoRow : OpenClaim := { program := "ytcdpaflmofljaaagreat", sum := "53646a64bb9ebe270257b656cad280eca9e49859ea9cd098978736aec360940e", func := "choragus/choraguslaw27.NodeFounds", spec := "nodeFounds", unfollowed := true, recurses := true, plainKeys := false, apart := false, narrowed := true }
def NodeFoundsUptoSaid : Prop := nodeFoundsUptoRow.holds Tryz.pinned (OpenSpec.upto nodeFoundsSpec)

/-- 'choraguslaw27.NodeAlone', WHERE WHAT IT READS IS OF BULK AT MOST 1048576: true; the input reads as it did. -/
def nodeAloneUptoRow : OpenClaim := { program := "ytcdpaflmofljaaagreat", sum := "53646a64bb9ebe270257b656cad280eca9e49859ea9cd098978736aec360940e", func := "choragus/choraguslaw27.NodeAlone", spec := "nodeAlone", unfollowed := true, recurses := true, plainKeys := false, apart := false, narrowed := true }
def NodeAloneUptoSaid : Prop := nodeAloneUptoRow.holds Tryz.pinned (OpenSpec.upto nodeAloneSpec)

/-- 'choraguslaw27.NodeSpoilt', WHERE WHAT IT READS IS OF BULK AT MOST 1048576: true; the input reads as it did. -/
def nodeSpoiltUptoRow : OpenClaim := { program := "ytcdpaflmofljaaagreat", sum := "53646a64bb9ebe270257b656cad280eca9e49859ea9cd098978736aec360940e", func := "choragus/choraguslaw27.NodeSpoilt", spec := "nodeSpoilt", unfollowed := true, recurses := true, plainKeys := false, apart := false, narrowed := true }
def NodeSpoiltUptoSaid : Prop := nodeSpoiltUptoRow.holds Tryz.pinned (OpenSpec.upto nodeSpoiltSpec)

/-- 'choraguslaw27.NodeNil', WHERE WHAT IT READS IS OF BULK AT MOST 1048576: true; the input reads as it did. -/
def nodeNilUptoRow : OpenClaim := { program := "ytcdpaflmofljaaagreat", sum := "53646a64bb9ebe270257b656cad280eca9e49859ea9cd098978736aec360940e", func := "choragus/choraguslaw27.NodeNil", spec := "nodeNil", unfollowed := true, recurses := true, plainKeys := false, apart := false, narrowed := true }
def NodeNilUptoSaid : Prop := nodeNilUptoRow.holds Tryz.pinned (OpenSpec.upto nodeNilSpec)

end Rows
end Go.Proofs.YtcdpaflmofljaaaGreat
