/-
  No cell of these rows narrows 'for every input' (looked for: loops, veiled, ifaces, maps, wideKeys, modest, calm, conditions, laid).
  DERIVED. THE GIVEN ROWS OF THIS SEAT. 9 by the template 'for every input the law returns true; each argument reads behind the call as it read before'; 0 by the template 'total and deterministic' (their statements: YtjiedaialianmaaGreatTotals.lean).
  GIVEN WITH THE SEED: the statements are not yours to turn. If you find one false, say at which input.
  Laid BY PROGRAM, IN A SANDBOX (cutbox-rows.mjs): the forced cells as the released guide's own fill.sh prints them over the translation f7a12d1cc132d96b… (all of the seat's roots in one cut). By AI agents, Wed Nov 11 2026. No macro, syntax, notation, axiom, sorry.
-/
import Derived.Test.YtjiedaialianmaaGreatChecked
import GoSem.Claim
import GoSem.ClaimJoined
import GoSem.ClaimMapViews
import Derived.JoinedTies
import Derived.KernelRfl
namespace Go.Proofs.YtjiedaialianmaaGreat
/- THE CELL 'sum', in the pinned program and in every row, IS THE sha256 OF THE DUMP (.gsa) THAT YtjiedaialianmaaGreatProg.lean LOADS. Nothing in Lean hashes anything: it is a label: what it is worth is what the hold of that sum in a sandbox is worth. -/
noncomputable def Tryz.pinned : Pinned := { name := "ytjiedaialianmaagreat", sum := "f7a12d1cc132d96b8cd09573f32fdb35a9255fcdfeb1453a47f0ce3f94c15064", checked := Tryz.checked }
namespace Rows
def none {H : Type} : Left H := { results := [], args := [] }

/-- 'shipfitterlaw.SessionLasts': WHATEVER THE INPUT: true; the input reads as it did. -/
def sessionLastsSpec : ChangeSpec := { name := "sessionLasts", fn := fun _ => fun
  | [d1, d2] => { results := [.lit (.bool true)], args := [d1, d2] }
  | _ => none }
def sessionLastsRow : OpenClaim := { program := "ytjiedaialianmaagreat", sum := "f7a12d1cc132d96b8cd09573f32fdb35a9255fcdfeb1453a47f0ce3f94c15064", func := "shipfitter/shipfitterlaw.SessionLasts", spec := "sessionLasts", inPlace := ["internal/abi.NoEscape", "internal/bytealg.MakeNoZero", "slices.overlaps[shipfitter/api.Placed]"], unfollowed := true, recurses := true, apart := false }
def SessionLastsSaid : Prop := sessionLastsRow.holds Tryz.pinned (OpenSpec.ofChange sessionLastsSpec)

/-- ITS FALSE NEIGHBOUR: 'it returns false'. Refute it at one input. -/
def sessionLastsWrong : ChangeSpec := { name := "sessionLasts", fn := fun _ => fun
  | [d1, d2] => { results := [.lit (.bool false)], args := [d1, d2] }
  | _ => none }
def SessionLastsWrongFalsely : Prop := sessionLastsRow.holds Tryz.pinned (OpenSpec.ofChange sessionLastsWrong)

/-- 'shipfitterlaw.RestFlashes': WHATEVER THE INPUT: true; the input reads as it did. -/
def restFlashesSpec : ChangeSpec := { name := "restFlashes", fn := fun _ => fun
  | [d1, d2, d3, d4] => { results := [.lit (.bool true)], args := [d1, d2, d3, d4] }
  | _ => none }
def restFlashesRow : OpenClaim := { program := "ytjiedaialianmaagreat", sum := "f7a12d1cc132d96b8cd09573f32fdb35a9255fcdfeb1453a47f0ce3f94c15064", func := "shipfitter/shipfitterlaw.RestFlashes", spec := "restFlashes", inPlace := ["internal/abi.NoEscape", "internal/bytealg.MakeNoZero", "slices.overlaps[shipfitter/api.Placed]"], unfollowed := true, recurses := true, apart := false }
def RestFlashesSaid : Prop := restFlashesRow.holds Tryz.pinned (OpenSpec.ofChange restFlashesSpec)

/-- ITS FALSE NEIGHBOUR: 'it returns false'. Refute it at one input. -/
def restFlashesWrong : ChangeSpec := { name := "restFlashes", fn := fun _ => fun
  | [d1, d2, d3, d4] => { results := [.lit (.bool false)], args := [d1, d2, d3, d4] }
  | _ => none }
def RestFlashesWrongFalsely : Prop := restFlashesRow.holds Tryz.pinned (OpenSpec.ofChange restFlashesWrong)

/-- 'shipfitterlaw.PlanTells': WHATEVER THE INPUT: true; the input reads as it did. -/
def planTellsSpec : ChangeSpec := { name := "planTells", fn := fun _ => fun
  | [d1, d2, d3] => { results := [.lit (.bool true)], args := [d1, d2, d3] }
  | _ => none }
def planTellsRow : OpenClaim := { program := "ytjiedaialianmaagreat", sum := "f7a12d1cc132d96b8cd09573f32fdb35a9255fcdfeb1453a47f0ce3f94c15064", func := "shipfitter/shipfitterlaw.PlanTells", spec := "planTells", inPlace := ["internal/abi.NoEscape", "internal/bytealg.MakeNoZero", "slices.overlaps[shipfitter/api.Placed]"], unfollowed := true, recurses := true, apart := false }
def PlanTellsSaid : Prop := planTellsRow.holds Tryz.pinned (OpenSpec.ofChange planTellsSpec)

/-- ITS FALSE NEIGHBOUR: 'it returns false'. Refute it at one input. -/
def planTellsWrong : ChangeSpec := { name := "planTells", fn := fun _ => fun
  | [d1, d2, d3] => { results := [.lit (.bool false)], args := [d1, d2, d3] }
  | _ => none }
def PlanTellsWrongFalsely : Prop := planTellsRow.holds Tryz.pinned (OpenSpec.ofChange planTellsWrong)

/-- 'shipfitterlaw.RestPlans': WHATEVER THE INPUT: true; the input reads as it did. -/
def restPlansSpec : ChangeSpec := { name := "restPlans", fn := fun _ => fun
  | [d1, d2, d3] => { results := [.lit (.bool true)], args := [d1, d2, d3] }
  | _ => none }
def restPlansRow : OpenClaim := { program := "ytjiedaialianmaagreat", sum := "f7a12d1cc132d96b8cd09573f32fdb35a9255fcdfeb1453a47f0ce3f94c15064", func := "shipfitter/shipfitterlaw.RestPlans", spec := "restPlans", inPlace := ["internal/abi.NoEscape", "internal/bytealg.MakeNoZero", "slices.overlaps[shipfitter/api.Placed]"], unfollowed := true, recurses := true, apart := false }
def RestPlansSaid : Prop := restPlansRow.holds Tryz.pinned (OpenSpec.ofChange restPlansSpec)

/-- ITS FALSE NEIGHBOUR: 'it returns false'. Refute it at one input. -/
def restPlansWrong : ChangeSpec := { name := "restPlans", fn := fun _ => fun
  | [d1, d2, d3] => { results := [.lit (.bool false)], args := [d1, d2, d3] }
  | _ => none }
def RestPlansWrongFalsely : Prop := restPlansRow.holds Tryz.pinned (OpenSpec.ofChange restPlansWrong)

/-- 'shipfitterlaw.SessionParts': WHATEVER THE INPUT: true; the input reads as it did. -/
def sessionPartsSpec : ChangeSpec := { name := "sessionParts", fn := fun _ => fun
  | [d1, d2, d3] => { results := [.lit (.bool true)], args := [d1, d2, d3] }
  | _ => none }
def sessionPartsRow : OpenClaim := { program := "ytjiedaialianmaagreat", sum := "f7a12d1cc132d96b8cd09573f32fdb35a9255fcdfeb1453a47f0ce3f94c15064", func := "shipfitter/shipfitterlaw.SessionParts", spec := "sessionParts", inPlace := ["internal/abi.NoEscape", "internal/bytealg.MakeNoZero", "slices.overlaps[shipfitter/api.Placed]"], unfollowed := true, recurses := true, apart := false }
def SessionPartsSaid : Prop := sessionPartsRow.holds Tryz.pinned (OpenSpec.ofChange sessionPartsSpec)

/-- ITS FALSE NEIGHBOUR: 'it returns false'. Refute it at one input. -/
def sessionPartsWrong : ChangeSpec := { name := "sessionParts", fn := fun _ => fun
  | [d1, d2, d3] => { results := [.lit (.bool false)], args := [d1, d2, d3] }
  | _ => none }
def SessionPartsWrongFalsely : Prop := sessionPartsRow.holds Tryz.pinned (OpenSpec.ofChange sessionPartsWrong)

/-- 'shipfitterlaw.SessionCodes': WHATEVER THE INPUT: true; the input reads as it did. -/
def sessionCodesSpec : ChangeSpec := { name := "sessionCodes", fn := fun _ => fun
  | [d1, d2] => { results := [.lit (.bool true)], args := [d1, d2] }
  | _ => none }
def sessionCodesRow : OpenClaim := { program := "ytjiedaialianmaagreat", sum := "f7a12d1cc132d96b8cd09573f32fdb35a9255fcdfeb1453a47f0ce3f94c15064", func := "shipfitter/shipfitterlaw.SessionCodes", spec := "sessionCodes", inPlace := ["internal/abi.NoEscape", "internal/bytealg.MakeNoZero", "slices.overlaps[shipfitter/api.Placed]"], unfollowed := true, recurses := true, apart := false }
def SessionCodesSaid : Prop := sessionCodesRow.holds Tryz.pinned (OpenSpec.ofChange sessionCodesSpec)

/-- ITS FALSE NEIGHBOUR: 'it returns false'. Refute it at one input. -/
def sessionCodesWrong : ChangeSpec := { name := "sessionCodes", fn := fun _ => fun
  | [d1, d2] => { results := [.lit (.bool false)], args := [d1, d2] }
  | _ => none }
def SessionCodesWrongFalsely : Prop := sessionCodesRow.holds Tryz.pinned (OpenSpec.ofChange sessionCodesWrong)

/-- 'shipfitterlaw.SessionRuns': WHATEVER THE INPUT: true; the input reads as it did. -/
def sessionRunsSpec : ChangeSpec := { name := "sessionRuns", fn := fun _ => fun
  | [d1, d2] => { results := [.lit (.bool true)], args := [d1, d2] }
  | _ => none }
def sessionRunsRow : OpenClaim := { program := "ytjiedaialianmaagreat", sum := "f7a12d1cc132d96b8cd09573f32fdb35a9255fcdfeb1453a47f0ce3f94c15064", func := "shipfitter/shipfitterlaw.SessionRuns", spec := "sessionRuns", inPlace := ["internal/abi.NoEscape", "internal/bytealg.MakeNoZero", "slices.overlaps[shipfitter/api.Placed]"], unfollowed := true, recurses := true, apart := false }
def SessionRunsSaid : Prop := sessionRunsRow.holds Tryz.pinned (OpenSpec.ofChange sessionRunsSpec)

/-- ITS FALSE NEIGHBOUR: 'it returns false'. Refute it at one input. -/
def sessionRunsWrong : ChangeSpec := { name := "sessionRuns", fn := fun _ => fun
  | [d1, d2] => { results := [.lit (.bool false)], args := [d1, d2] }
  | _ => none }
def SessionRunsWrongFalsely : Prop := sessionRunsRow.holds Tryz.pinned (OpenSpec.ofChange sessionRunsWrong)

/-- 'shipfitterlaw.SessionReopens': WHATEVER THE INPUT: true; the input reads as it did. -/
def sessionReopensSpec : ChangeSpec := { name := "sessionReopens", fn := fun _ => fun
  | [d1, d2, d3] => { results := [.lit (.bool true)], args := [d1, d2, d3] }
  | _ => none }
def sessionReopensRow : OpenClaim := { program := "ytjiedaialianmaagreat", sum := "f7a12d1cc132d96b8cd09573f32fdb35a9255fcdfeb1453a47f0ce3f94c15064", func := "shipfitter/shipfitterlaw.SessionReopens", spec := "sessionReopens", inPlace := ["internal/abi.NoEscape", "internal/bytealg.MakeNoZero", "slices.overlaps[shipfitter/api.Placed]"], unfollowed := true, recurses := true, apart := false }
def SessionReopensSaid : Prop := sessionReopensRow.holds Tryz.pinned (OpenSpec.ofChange sessionReopensSpec)

/-- ITS FALSE NEIGHBOUR: 'it returns false'. Refute it at one input. -/
def sessionReopensWrong : ChangeSpec := { name := "sessionReopens", fn := fun _ => fun
  | [d1, d2, d3] => { results := [.lit (.bool false)], args := [d1, d2, d3] }
  | _ => none }
def SessionReopensWrongFalsely : Prop := sessionReopensRow.holds Tryz.pinned (OpenSpec.ofChange sessionReopensWrong)

/-- 'shipfitterlaw.SessionPlays': WHATEVER THE INPUT: true; the input reads as it did. -/
def sessionPlaysSpec : ChangeSpec := { name := "sessionPlays", fn := fun _ => fun
  | [d1, d2, d3, d4] => { results := [.lit (.bool true)], args := [d1, d2, d3, d4] }
  | _ => none }
def sessionPlaysRow : OpenClaim := { program := "ytjiedaialianmaagreat", sum := "f7a12d1cc132d96b8cd09573f32fdb35a9255fcdfeb1453a47f0ce3f94c15064", func := "shipfitter/shipfitterlaw.SessionPlays", spec := "sessionPlays", inPlace := ["internal/abi.NoEscape", "internal/bytealg.MakeNoZero", "slices.overlaps[shipfitter/api.Placed]"], unfollowed := true, recurses := true, apart := false }
def SessionPlaysSaid : Prop := sessionPlaysRow.holds Tryz.pinned (OpenSpec.ofChange sessionPlaysSpec)

/-- ITS FALSE NEIGHBOUR: 'it returns false'. Refute it at one input. -/
def sessionPlaysWrong : ChangeSpec := { name := "sessionPlays", fn := fun _ => fun
  | [d1, d2, d3, d4] => { results := [.lit (.bool false)], args := [d1, d2, d3, d4] }
  | _ => none }
def SessionPlaysWrongFalsely : Prop := sessionPlaysRow.holds Tryz.pinned (OpenSpec.ofChange sessionPlaysWrong)

/- THE SECOND FORM. 'bulk': how many values and letters a reading holds, each counted each time it is reached (what is shared counts as often as it is met; a slice's spare places count too). A statement '..UptoSaid' is the law's where the arguments, and the package variables that the reading takes, are together of bulk at most 1048576: NARROWER than '..Said'. Prove '..Said' where nothing that the law and all that it calls make is longer than what came in: it says more and counts as full. Else prove '..UptoSaid'. A law counts once. -/
mutual
def uptoBulk {H : Type} : DataW H → Nat
  | .lit (.string bytes) => bytes.length + 1
  | .lit _ => 1
  | .nil => 1
  | .ptr d => uptoBulk d + 1
  | .slice elems spare => uptoBulkAll elems + uptoBulkAll spare + 1
  | .agg parts => uptoBulkAll parts + 1
  | .iface _ d => uptoBulk d + 1
  | .map entries => uptoBulkEntries entries + 1
  | .held _ => 1
def uptoBulkAll {H : Type} : List (DataW H) → Nat
  | [] => 0
  | d :: r => uptoBulk d + uptoBulkAll r
def uptoBulkEntries {H : Type} : List (Lit × DataW H) → Nat
  | [] => 0
  | x :: r => uptoBulkEntry x + uptoBulkEntries r
def uptoBulkEntry {H : Type} : Lit × DataW H → Nat
  | (.string bytes, d) => bytes.length + uptoBulk d + 1
  | (_, d) => uptoBulk d + 1
 end
def uptoSmall : (H : Type) → List (DataW H) → Bool := fun _ ds => decide (uptoBulkAll ds ≤ 1048576)
def OpenSpec.upto (s : _root_.Go.ChangeSpec) : _root_.Go.OpenSpec := { _root_.Go.OpenSpec.ofChange s with cond := some uptoSmall }

/-- 'shipfitterlaw.SessionLasts', WHERE WHAT IT READS IS OF BULK AT MOST 1048576: true; the input reads as it did. -/
def sessionLastsUptoRow : OpenClaim := { program := "ytjiedaialianmaagreat", sum := "f7a12d1cc132d96b8cd09573f32fdb35a9255fcdfeb1453a47f0ce3f94c15064", func := "shipfitter/shipfitterlaw.SessionLasts", spec := "sessionLasts", inPlace := ["internal/abi.NoEscape", "internal/bytealg.MakeNoZero", "slices.overlaps[shipfitter/api.Placed]"], unfollowed := true, recurses := true, apart := false, narrowed := true }
def SessionLastsUptoSaid : Prop := sessionLastsUptoRow.holds Tryz.pinned (OpenSpec.upto sessionLastsSpec)

/-- 'shipfitterlaw.RestFlashes', WHERE WHAT IT READS IS OF BULK AT MOST 1048576: true; the input reads as it did. -/
def restFlashesUptoRow : OpenClaim := { program := "ytjiedaialianmaagreat", sum := "f7a12d1cc132d96b8cd09573f32fdb35a9255fcdfeb1453a47f0ce3f94c15064", func := "shipfitter/shipfitterlaw.RestFlashes", spec := "restFlashes", inPlace := ["internal/abi.NoEscape", "internal/bytealg.MakeNoZero", "slices.overlaps[shipfitter/api.Placed]"], unfollowed := true, recurses := true, apart := false, narrowed := true }
def RestFlashesUptoSaid : Prop := restFlashesUptoRow.holds Tryz.pinned (OpenSpec.upto restFlashesSpec)

/-- 'shipfitterlaw.PlanTells', WHERE WHAT IT READS IS OF BULK AT MOST 1048576: true; the input reads as it did. -/
def planTellsUptoRow : OpenClaim := { program := "ytjiedaialianmaagreat", sum := "f7a12d1cc132d96b8cd09573f32fdb35a9255fcdfeb1453a47f0ce3f94c15064", func := "shipfitter/shipfitterlaw.PlanTells", spec := "planTells", inPlace := ["internal/abi.NoEscape", "internal/bytealg.MakeNoZero", "slices.overlaps[shipfitter/api.Placed]"], unfollowed := true, recurses := true, apart := false, narrowed := true }
def PlanTellsUptoSaid : Prop := planTellsUptoRow.holds Tryz.pinned (OpenSpec.upto planTellsSpec)

/-- 'shipfitterlaw.RestPlans', WHERE WHAT IT READS IS OF BULK AT MOST 1048576: true; the input reads as it did. -/
def restPlansUptoRow : OpenClaim := { program := "ytjiedaialianmaagreat", sum := "f7a12d1cc132d96b8cd09573f32fdb35a9255fcdfeb1453a47f0ce3f94c15064", func := "shipfitter/shipfitterlaw.RestPlans", spec := "restPlans", inPlace := ["internal/abi.NoEscape", "internal/bytealg.MakeNoZero", "slices.overlaps[shipfitter/api.Placed]"], unfollowed := true, recurses := true, apart := false, narrowed := true }
def RestPlansUptoSaid : Prop := restPlansUptoRow.holds Tryz.pinned (OpenSpec.upto restPlansSpec)

/-- 'shipfitterlaw.SessionParts', WHERE WHAT IT READS IS OF BULK AT MOST 1048576: true; the input reads as it did. -/
def sessionPartsUptoRow : OpenClaim := { program := "ytjiedaialianmaagreat", sum := "f7a12d1cc132d96b8cd09573f32fdb35a9255fcdfeb1453a47f0ce3f94c15064", func := "shipfitter/shipfitterlaw.SessionParts", spec := "sessionParts", inPlace := ["internal/abi.NoEscape", "internal/bytealg.MakeNoZero", "slices.overlaps[shipfitter/api.Placed]"], unfollowed := true, recurses := true, apart := false, narrowed := true }
def SessionPartsUptoSaid : Prop := sessionPartsUptoRow.holds Tryz.pinned (OpenSpec.upto sessionPartsSpec)

/-- 'shipfitterlaw.SessionCodes', WHERE WHAT IT READS IS OF BULK AT MOST 1048576: true; the input reads as it did. -/
def sessionCodesUptoRow : OpenClaim := { program := "ytjiedaialianmaagreat", sum := "f7a12d1cc132d96b8cd09573f32fdb35a9255fcdfeb1453a47f0ce3f94c15064", func := "shipfitter/shipfitterlaw.SessionCodes", spec := "sessionCodes", inPlace := ["internal/abi.NoEscape", "internal/bytealg.MakeNoZero", "slices.overlaps[shipfitter/api.Placed]"], unfollowed := true, recurses := true, apart := false, narrowed := true }
def SessionCodesUptoSaid : Prop := sessionCodesUptoRow.holds Tryz.pinned (OpenSpec.upto sessionCodesSpec)

/-- 'shipfitterlaw.SessionRuns', WHERE WHAT IT READS IS OF BULK AT MOST 1048576: true; the input reads as it did. -/
def sessionRunsUptoRow : OpenClaim := { program := "ytjiedaialianmaagreat", sum := "f7a12d1cc132d96b8cd09573f32fdb35a9255fcdfeb1453a47f0ce3f94c15064", func := "shipfitter/shipfitterlaw.SessionRuns", spec := "sessionRuns", inPlace := ["internal/abi.NoEscape", "internal/bytealg.MakeNoZero", "slices.overlaps[shipfitter/api.Placed]"], unfollowed := true, recurses := true, apart := false, narrowed := true }
def SessionRunsUptoSaid : Prop := sessionRunsUptoRow.holds Tryz.pinned (OpenSpec.upto sessionRunsSpec)

/-- 'shipfitterlaw.SessionReopens', WHERE WHAT IT READS IS OF BULK AT MOST 1048576: true; the input reads as it did. -/
def sessionReopensUptoRow : OpenClaim := { program := "ytjiedaialianmaagreat", sum := "f7a12d1cc132d96b8cd09573f32fdb35a9255fcdfeb1453a47f0ce3f94c15064", func := "shipfitter/shipfitterlaw.SessionReopens", spec := "sessionReopens", inPlace := ["internal/abi.NoEscape", "internal/bytealg.MakeNoZero", "slices.overlaps[shipfitter/api.Placed]"], unfollowed := true, recurses := true, apart := false, narrowed := true }
def SessionReopensUptoSaid : Prop := sessionReopensUptoRow.holds Tryz.pinned (OpenSpec.upto sessionReopensSpec)

/-- 'shipfitterlaw.SessionPlays', WHERE WHAT IT READS IS OF BULK AT MOST 1048576: true; the input reads as it did. -/
def sessionPlaysUptoRow : OpenClaim := { program := "ytjiedaialianmaagreat", sum := "f7a12d1cc132d96b8cd09573f32fdb35a9255fcdfeb1453a47f0ce3f94c15064", func := "shipfitter/shipfitterlaw.SessionPlays", spec := "sessionPlays", inPlace := ["internal/abi.NoEscape", "internal/bytealg.MakeNoZero", "slices.overlaps[shipfitter/api.Placed]"], unfollowed := true, recurses := true, apart := false, narrowed := true }
def SessionPlaysUptoSaid : Prop := sessionPlaysUptoRow.holds Tryz.pinned (OpenSpec.upto sessionPlaysSpec)

end Rows
end Go.Proofs.YtjiedaialianmaaGreat
