/-
  No cell of these rows narrows 'for every input' (looked for: loops, veiled, ifaces, maps, wideKeys, modest, calm, conditions, laid).
  DERIVED. THE GIVEN ROWS OF THIS SEAT. 6 by the template 'for every input the law returns true; each argument reads behind the call as it read before'; 0 by the template 'total and deterministic' (their statements: YtgkpbndeljnjcaaTotals.lean).
  GIVEN WITH THE SEED: the statements are not yours to turn. If you find one false, say at which input.
  Laid BY PROGRAM, IN A SANDBOX (cutbox-rows.mjs): the forced cells as the released guide's own fill.sh prints them over the translation 48d29c650b7312b4… (all of the seat's roots in one cut). By AI agents, Wed Nov 11 2026. No macro, syntax, notation, axiom, sorry.
-/
import Derived.Test.YtgkpbndeljnjcaaChecked
import GoSem.Claim
import GoSem.ClaimJoined
import GoSem.ClaimMapViews
import Derived.JoinedTies
import Derived.KernelRfl
namespace Go.Proofs.Ytgkpbndeljnjcaa
/- THE CELL 'sum', in the pinned program and in every row, IS THE sha256 OF THE DUMP (.gsa) THAT YtgkpbndeljnjcaaProg.lean LOADS. Nothing in Lean hashes anything: it is a label: what it is worth is what the hold of that sum in a sandbox is worth. -/
noncomputable def Try.pinned : Pinned := { name := "ytgkpbndeljnjcaa", sum := "48d29c650b7312b49e5ecfde1acdc04173d01dab8a49f3acf503937ef874b3d2", checked := Try.checked }
namespace Rows
def none {H : Type} : Left H := { results := [], args := [] }

/-- 'shipfitterlaw.GraphTells': WHATEVER THE INPUT: true; the input reads as it did. -/
def graphTellsSpec : ChangeSpec := { name := "graphTells", fn := fun _ => fun
  | [d1, d2] => { results := [.lit (.bool true)], args := [d1, d2] }
  | _ => none }
def graphTellsRow : OpenClaim := { program := "ytgkpbndeljnjcaa", sum := "48d29c650b7312b49e5ecfde1acdc04173d01dab8a49f3acf503937ef874b3d2", func := "shipfitter/shipfitterlaw.GraphTells", spec := "graphTells", unfollowed := true, recurses := true, apart := false }
def GraphTellsSaid : Prop := graphTellsRow.holds Try.pinned (OpenSpec.ofChange graphTellsSpec)

/-- ITS FALSE NEIGHBOUR: 'it returns false'. Refute it at one input. -/
def graphTellsWrong : ChangeSpec := { name := "graphTells", fn := fun _ => fun
  | [d1, d2] => { results := [.lit (.bool false)], args := [d1, d2] }
  | _ => none }
def GraphTellsWrongFalsely : Prop := graphTellsRow.holds Try.pinned (OpenSpec.ofChange graphTellsWrong)

/-- 'shipfitterlaw.GraphTurned': WHATEVER THE INPUT: true; the input reads as it did. -/
def graphTurnedSpec : ChangeSpec := { name := "graphTurned", fn := fun _ => fun
  | [d1, d2, d3] => { results := [.lit (.bool true)], args := [d1, d2, d3] }
  | _ => none }
def graphTurnedRow : OpenClaim := { program := "ytgkpbndeljnjcaa", sum := "48d29c650b7312b49e5ecfde1acdc04173d01dab8a49f3acf503937ef874b3d2", func := "shipfitter/shipfitterlaw.GraphTurned", spec := "graphTurned", unfollowed := true, recurses := true, apart := false }
def GraphTurnedSaid : Prop := graphTurnedRow.holds Try.pinned (OpenSpec.ofChange graphTurnedSpec)

/-- ITS FALSE NEIGHBOUR: 'it returns false'. Refute it at one input. -/
def graphTurnedWrong : ChangeSpec := { name := "graphTurned", fn := fun _ => fun
  | [d1, d2, d3] => { results := [.lit (.bool false)], args := [d1, d2, d3] }
  | _ => none }
def GraphTurnedWrongFalsely : Prop := graphTurnedRow.holds Try.pinned (OpenSpec.ofChange graphTurnedWrong)

/-- 'shipfitterlaw.GraphOrder': WHATEVER THE INPUT: true; the input reads as it did. -/
def graphOrderSpec : ChangeSpec := { name := "graphOrder", fn := fun _ => fun
  | [d] => { results := [.lit (.bool true)], args := [d] }
  | _ => none }
def graphOrderRow : OpenClaim := { program := "ytgkpbndeljnjcaa", sum := "48d29c650b7312b49e5ecfde1acdc04173d01dab8a49f3acf503937ef874b3d2", func := "shipfitter/shipfitterlaw.GraphOrder", spec := "graphOrder", unfollowed := true, recurses := true, apart := false }
def GraphOrderSaid : Prop := graphOrderRow.holds Try.pinned (OpenSpec.ofChange graphOrderSpec)

/-- ITS FALSE NEIGHBOUR: 'it returns false'. Refute it at one input. -/
def graphOrderWrong : ChangeSpec := { name := "graphOrder", fn := fun _ => fun
  | [d] => { results := [.lit (.bool false)], args := [d] }
  | _ => none }
def GraphOrderWrongFalsely : Prop := graphOrderRow.holds Try.pinned (OpenSpec.ofChange graphOrderWrong)

/-- 'shipfitterlaw.GraphLess': WHATEVER THE INPUT: true; the input reads as it did. -/
def graphLessSpec : ChangeSpec := { name := "graphLess", fn := fun _ => fun
  | [d1, d2] => { results := [.lit (.bool true)], args := [d1, d2] }
  | _ => none }
def graphLessRow : OpenClaim := { program := "ytgkpbndeljnjcaa", sum := "48d29c650b7312b49e5ecfde1acdc04173d01dab8a49f3acf503937ef874b3d2", func := "shipfitter/shipfitterlaw.GraphLess", spec := "graphLess", unfollowed := true, recurses := true, apart := false }
def GraphLessSaid : Prop := graphLessRow.holds Try.pinned (OpenSpec.ofChange graphLessSpec)

/-- ITS FALSE NEIGHBOUR: 'it returns false'. Refute it at one input. -/
def graphLessWrong : ChangeSpec := { name := "graphLess", fn := fun _ => fun
  | [d1, d2] => { results := [.lit (.bool false)], args := [d1, d2] }
  | _ => none }
def GraphLessWrongFalsely : Prop := graphLessRow.holds Try.pinned (OpenSpec.ofChange graphLessWrong)

/-- 'shipfitterlaw.LinkMoved': WHATEVER THE INPUT: true; the input reads as it did. -/
def linkMovedSpec : ChangeSpec := { name := "linkMoved", fn := fun _ => fun
  | [d1, d2] => { results := [.lit (.bool true)], args := [d1, d2] }
  | _ => none }
def linkMovedRow : OpenClaim := { program := "ytgkpbndeljnjcaa", sum := "48d29c650b7312b49e5ecfde1acdc04173d01dab8a49f3acf503937ef874b3d2", func := "shipfitter/shipfitterlaw.LinkMoved", spec := "linkMoved", inPlace := ["internal/abi.NoEscape", "internal/bytealg.MakeNoZero"], unfollowed := true, recurses := true, apart := false }
def LinkMovedSaid : Prop := linkMovedRow.holds Try.pinned (OpenSpec.ofChange linkMovedSpec)

/-- ITS FALSE NEIGHBOUR: 'it returns false'. Refute it at one input. -/
def linkMovedWrong : ChangeSpec := { name := "linkMoved", fn := fun _ => fun
  | [d1, d2] => { results := [.lit (.bool false)], args := [d1, d2] }
  | _ => none }
def LinkMovedWrongFalsely : Prop := linkMovedRow.holds Try.pinned (OpenSpec.ofChange linkMovedWrong)

/-- 'shipfitterlaw.LinkAlone': WHATEVER THE INPUT: true; the input reads as it did. -/
def linkAloneSpec : ChangeSpec := { name := "linkAlone", fn := fun _ => fun
  | [d1, d2, d3, d4] => { results := [.lit (.bool true)], args := [d1, d2, d3, d4] }
  | _ => none }
def linkAloneRow : OpenClaim := { program := "ytgkpbndeljnjcaa", sum := "48d29c650b7312b49e5ecfde1acdc04173d01dab8a49f3acf503937ef874b3d2", func := "shipfitter/shipfitterlaw.LinkAlone", spec := "linkAlone", inPlace := ["internal/abi.NoEscape", "internal/bytealg.MakeNoZero"], unfollowed := true, recurses := true, apart := false }
def LinkAloneSaid : Prop := linkAloneRow.holds Try.pinned (OpenSpec.ofChange linkAloneSpec)

/-- ITS FALSE NEIGHBOUR: 'it returns false'. Refute it at one input. -/
def linkAloneWrong : ChangeSpec := { name := "linkAlone", fn := fun _ => fun
  | [d1, d2, d3, d4] => { results := [.lit (.bool false)], args := [d1, d2, d3, d4] }
  | _ => none }
def LinkAloneWrongFalsely : Prop := linkAloneRow.holds Try.pinned (OpenSpec.ofChange linkAloneWrong)

/- THE SECOND FORM. 'bulk': how many values and letters a reading holds, each counted each time it is reached (what is shared counts as often as it is met; a slice's spare places count too). A statement '..UptoSaid' is the law's where the arguments, and the package variables that the reading takes, are together of bulk at most 1048576: NARROWER than '..Said'. Prove '..Said' where nothing that the law and all that it calls make is longer than what came in: it says more and counts as full. Else prove '..UptoSaid'. A law counts once. -/
mutual
def uptoBulk {H : Type} : DataW H → Nat
  | .lit (.string bytes) => bytes.length + 1
  | .lit _ => 1
  | .nil => 1
  | .ptr d => uptoBulk d + 1
  | .slice elems spare => uptoBulkAll elems + uptoBulkAll spare + 1
  | .agg parts => uptoBulkAll parts + 1
  | .iface _ d => uptoBulk d + 1
  | .map entries => uptoBulkEntries entries + 1
  | .held _ => 1
def uptoBulkAll {H : Type} : List (DataW H) → Nat
  | [] => 0
  | d :: r => uptoBulk d + uptoBulkAll r
def uptoBulkEntries {H : Type} : List (Lit × DataW H) → Nat
  | [] => 0
  | x :: r => uptoBulkEntry x + uptoBulkEntries r
def uptoBulkEntry {H : Type} : Lit × DataW H → Nat
  | (.string bytes, d) => bytes.length + uptoBulk d + 1
  | (_, d) => uptoBulk d + 1
 end
def uptoSmall : (H : Type) → List (DataW H) → Bool := fun _ ds => decide (uptoBulkAll ds ≤ 1048576)
def OpenSpec.upto (s : _root_.Go.ChangeSpec) : _root_.Go.OpenSpec := { _root_.Go.OpenSpec.ofChange s with cond := some uptoSmall }

/-- 'shipfitterlaw.GraphTells', WHERE WHAT IT READS IS OF BULK AT MOST 1048576: true; the input reads as it did. -/
def graphTellsUptoRow : OpenClaim := { program := "ytgkpbndeljnjcaa", sum := "48d29c650b7312b49e5ecfde1acdc04173d01dab8a49f3acf503937ef874b3d2", func := "shipfitter/shipfitterlaw.GraphTells", spec := "graphTells", unfollowed := true, recurses := true, apart := false, narrowed := true }
def GraphTellsUptoSaid : Prop := graphTellsUptoRow.holds Try.pinned (OpenSpec.upto graphTellsSpec)

/-- 'shipfitterlaw.GraphTurned', WHERE WHAT IT READS IS OF BULK AT MOST 1048576: true; the input reads as it did. -/
def graphTurnedUptoRow : OpenClaim := { program := "ytgkpbndeljnjcaa", sum := "48d29c650b7312b49e5ecfde1acdc04173d01dab8a49f3acf503937ef874b3d2", func := "shipfitter/shipfitterlaw.GraphTurned", spec := "graphTurned", unfollowed := true, recurses := true, apart := false, narrowed := true }
def GraphTurnedUptoSaid : Prop := graphTurnedUptoRow.holds Try.pinned (OpenSpec.upto graphTurnedSpec)

/-- 'shipfitterlaw.GraphOrder', WHERE WHAT IT READS IS OF BULK AT MOST 1048576: true; the input reads as it did. -/
def graphOrderUptoRow : OpenClaim := { program := "ytgkpbndeljnjcaa", sum := "48d29c650b7312b49e5ecfde1acdc04173d01dab8a49f3acf503937ef874b3d2", func := "shipfitter/shipfitterlaw.GraphOrder", spec := "graphOrder", unfollowed := true, recurses := true, apart := false, narrowed := true }
def GraphOrderUptoSaid : Prop := graphOrderUptoRow.holds Try.pinned (OpenSpec.upto graphOrderSpec)

/-- 'shipfitterlaw.GraphLess', WHERE WHAT IT READS IS OF BULK AT MOST 1048576: true; the input reads as it did. -/
def graphLessUptoRow : OpenClaim := { program := "ytgkpbndeljnjcaa", sum := "48d29c650b7312b49e5ecfde1acdc04173d01dab8a49f3acf503937ef874b3d2", func := "shipfitter/shipfitterlaw.GraphLess", spec := "graphLess", unfollowed := true, recurses := true, apart := false, narrowed := true }
def GraphLessUptoSaid : Prop := graphLessUptoRow.holds Try.pinned (OpenSpec.upto graphLessSpec)

/-- 'shipfitterlaw.LinkMoved', WHERE WHAT IT READS IS OF BULK AT MOST 1048576: true; the input reads as it did. -/
def linkMovedUptoRow : OpenClaim := { program := "ytgkpbndeljnjcaa", sum := "48d29c650b7312b49e5ecfde1acdc04173d01dab8a49f3acf503937ef874b3d2", func := "shipfitter/shipfitterlaw.LinkMoved", spec := "linkMoved", inPlace := ["internal/abi.NoEscape", "internal/bytealg.MakeNoZero"], unfollowed := true, recurses := true, apart := false, narrowed := true }
def LinkMovedUptoSaid : Prop := linkMovedUptoRow.holds Try.pinned (OpenSpec.upto linkMovedSpec)

/-- 'shipfitterlaw.LinkAlone', WHERE WHAT IT READS IS OF BULK AT MOST 1048576: true; the input reads as it did. -/
def linkAloneUptoRow : OpenClaim := { program := "ytgkpbndeljnjcaa", sum := "48d29c650b7312b49e5ecfde1acdc04173d01dab8a49f3acf503937ef874b3d2", func := "shipfitter/shipfitterlaw.LinkAlone", spec := "linkAlone", inPlace := ["internal/abi.NoEscape", "internal/bytealg.MakeNoZero"], unfollowed := true, recurses := true, apart := false, narrowed := true }
def LinkAloneUptoSaid : Prop := linkAloneUptoRow.holds Try.pinned (OpenSpec.upto linkAloneSpec)

end Rows
end Go.Proofs.Ytgkpbndeljnjcaa
