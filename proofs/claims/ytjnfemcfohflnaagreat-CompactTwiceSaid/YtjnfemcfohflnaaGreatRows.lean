/-
  No cell of these rows narrows 'for every input' (looked for: loops, veiled, ifaces, maps, wideKeys, modest, calm, conditions, laid).
  DERIVED. THE GIVEN ROWS OF THIS SEAT. 10 by the template 'for every input the law returns true; each argument reads behind the call as it read before'; 0 by the template 'total and deterministic' (their statements: YtjnfemcfohflnaaGreatTotals.lean).
  GIVEN WITH THE SEED: the statements are not yours to turn. If you find one false, say at which input.
  Laid BY PROGRAM, IN A SANDBOX (cutbox-rows.mjs): the forced cells as the released guide's own fill.sh prints them over the translation d061e5d3cbbb85cc… (all of the seat's roots in one cut). By AI agents, Wed Nov 11 2026. No macro, syntax, notation, axiom, sorry.
-/
import Derived.Test.YtjnfemcfohflnaaGreatChecked
import GoSem.Claim
import GoSem.ClaimJoined
import GoSem.ClaimMapViews
import Derived.JoinedTies
import Derived.KernelRfl
namespace Go.Proofs.YtjnfemcfohflnaaGreat
/- THE CELL 'sum', in the pinned program and in every row, IS THE sha256 OF THE DUMP (.gsa) THAT YtjnfemcfohflnaaGreatProg.lean LOADS. Nothing in Lean hashes anything: it is a label: what it is worth is what the hold of that sum in a sandbox is worth. -/
noncomputable def Tryz.pinned : Pinned := { name := "ytjnfemcfohflnaagreat", sum := "d061e5d3cbbb85cc10e147a626cfa26c187f4f4b19a316639d5d2d27c551ca20", checked := Tryz.checked }
namespace Rows
def none {H : Type} : Left H := { results := [], args := [] }

/-- 'shipfitterlaw.RegistryTells': WHATEVER THE INPUT: true; the input reads as it did. -/
def registryTellsSpec : ChangeSpec := { name := "registryTells", fn := fun _ => fun
  | [d1, d2] => { results := [.lit (.bool true)], args := [d1, d2] }
  | _ => none }
def registryTellsRow : OpenClaim := { program := "ytjnfemcfohflnaagreat", sum := "d061e5d3cbbb85cc10e147a626cfa26c187f4f4b19a316639d5d2d27c551ca20", func := "shipfitter/shipfitterlaw.RegistryTells", spec := "registryTells", inPlace := ["internal/abi.NoEscape", "internal/bytealg.MakeNoZero"], unfollowed := true, recurses := true, apart := false }
def RegistryTellsSaid : Prop := registryTellsRow.holds Tryz.pinned (OpenSpec.ofChange registryTellsSpec)

/-- ITS FALSE NEIGHBOUR: 'it returns false'. Refute it at one input. -/
def registryTellsWrong : ChangeSpec := { name := "registryTells", fn := fun _ => fun
  | [d1, d2] => { results := [.lit (.bool false)], args := [d1, d2] }
  | _ => none }
def RegistryTellsWrongFalsely : Prop := registryTellsRow.holds Tryz.pinned (OpenSpec.ofChange registryTellsWrong)

/-- 'shipfitterlaw.CompactTwice': WHATEVER THE INPUT: true; the input reads as it did. -/
def compactTwiceSpec : ChangeSpec := { name := "compactTwice", fn := fun _ => fun
  | [d] => { results := [.lit (.bool true)], args := [d] }
  | _ => none }
def compactTwiceRow : OpenClaim := { program := "ytjnfemcfohflnaagreat", sum := "d061e5d3cbbb85cc10e147a626cfa26c187f4f4b19a316639d5d2d27c551ca20", func := "shipfitter/shipfitterlaw.CompactTwice", spec := "compactTwice", inPlace := ["internal/abi.NoEscape", "internal/bytealg.MakeNoZero"], unfollowed := true, recurses := true, apart := false }
def CompactTwiceSaid : Prop := compactTwiceRow.holds Tryz.pinned (OpenSpec.ofChange compactTwiceSpec)

/-- ITS FALSE NEIGHBOUR: 'it returns false'. Refute it at one input. -/
def compactTwiceWrong : ChangeSpec := { name := "compactTwice", fn := fun _ => fun
  | [d] => { results := [.lit (.bool false)], args := [d] }
  | _ => none }
def CompactTwiceWrongFalsely : Prop := compactTwiceRow.holds Tryz.pinned (OpenSpec.ofChange compactTwiceWrong)

/-- 'shipfitterlaw.CompactTells': WHATEVER THE INPUT: true; the input reads as it did. -/
def compactTellsSpec : ChangeSpec := { name := "compactTells", fn := fun _ => fun
  | [d] => { results := [.lit (.bool true)], args := [d] }
  | _ => none }
def compactTellsRow : OpenClaim := { program := "ytjnfemcfohflnaagreat", sum := "d061e5d3cbbb85cc10e147a626cfa26c187f4f4b19a316639d5d2d27c551ca20", func := "shipfitter/shipfitterlaw.CompactTells", spec := "compactTells", inPlace := ["internal/abi.NoEscape", "internal/bytealg.MakeNoZero"], unfollowed := true, recurses := true, apart := false }
def CompactTellsSaid : Prop := compactTellsRow.holds Tryz.pinned (OpenSpec.ofChange compactTellsSpec)

/-- ITS FALSE NEIGHBOUR: 'it returns false'. Refute it at one input. -/
def compactTellsWrong : ChangeSpec := { name := "compactTells", fn := fun _ => fun
  | [d] => { results := [.lit (.bool false)], args := [d] }
  | _ => none }
def CompactTellsWrongFalsely : Prop := compactTellsRow.holds Tryz.pinned (OpenSpec.ofChange compactTellsWrong)

/-- 'shipfitterlaw.CompactSteps': WHATEVER THE INPUT: true; the input reads as it did. -/
def compactStepsSpec : ChangeSpec := { name := "compactSteps", fn := fun _ => fun
  | [d] => { results := [.lit (.bool true)], args := [d] }
  | _ => none }
def compactStepsRow : OpenClaim := { program := "ytjnfemcfohflnaagreat", sum := "d061e5d3cbbb85cc10e147a626cfa26c187f4f4b19a316639d5d2d27c551ca20", func := "shipfitter/shipfitterlaw.CompactSteps", spec := "compactSteps", inPlace := ["internal/abi.NoEscape", "internal/bytealg.MakeNoZero"], unfollowed := true, recurses := true, apart := false }
def CompactStepsSaid : Prop := compactStepsRow.holds Tryz.pinned (OpenSpec.ofChange compactStepsSpec)

/-- ITS FALSE NEIGHBOUR: 'it returns false'. Refute it at one input. -/
def compactStepsWrong : ChangeSpec := { name := "compactSteps", fn := fun _ => fun
  | [d] => { results := [.lit (.bool false)], args := [d] }
  | _ => none }
def CompactStepsWrongFalsely : Prop := compactStepsRow.holds Tryz.pinned (OpenSpec.ofChange compactStepsWrong)

/-- 'shipfitterlaw.RegistryWhole': WHATEVER THE INPUT: true; the input reads as it did. -/
def registryWholeSpec : ChangeSpec := { name := "registryWhole", fn := fun _ => fun
  | [d] => { results := [.lit (.bool true)], args := [d] }
  | _ => none }
def registryWholeRow : OpenClaim := { program := "ytjnfemcfohflnaagreat", sum := "d061e5d3cbbb85cc10e147a626cfa26c187f4f4b19a316639d5d2d27c551ca20", func := "shipfitter/shipfitterlaw.RegistryWhole", spec := "registryWhole", inPlace := ["internal/abi.NoEscape", "internal/bytealg.MakeNoZero"], unfollowed := true, recurses := true, apart := false }
def RegistryWholeSaid : Prop := registryWholeRow.holds Tryz.pinned (OpenSpec.ofChange registryWholeSpec)

/-- ITS FALSE NEIGHBOUR: 'it returns false'. Refute it at one input. -/
def registryWholeWrong : ChangeSpec := { name := "registryWhole", fn := fun _ => fun
  | [d] => { results := [.lit (.bool false)], args := [d] }
  | _ => none }
def RegistryWholeWrongFalsely : Prop := registryWholeRow.holds Tryz.pinned (OpenSpec.ofChange registryWholeWrong)

/-- 'shipfitterlaw.PlanTells': WHATEVER THE INPUT: true; the input reads as it did. -/
def planTellsSpec : ChangeSpec := { name := "planTells", fn := fun _ => fun
  | [d1, d2, d3] => { results := [.lit (.bool true)], args := [d1, d2, d3] }
  | _ => none }
def planTellsRow : OpenClaim := { program := "ytjnfemcfohflnaagreat", sum := "d061e5d3cbbb85cc10e147a626cfa26c187f4f4b19a316639d5d2d27c551ca20", func := "shipfitter/shipfitterlaw.PlanTells", spec := "planTells", inPlace := ["internal/abi.NoEscape", "internal/bytealg.MakeNoZero", "slices.overlaps[shipfitter/api.Placed]"], unfollowed := true, recurses := true, apart := false }
def PlanTellsSaid : Prop := planTellsRow.holds Tryz.pinned (OpenSpec.ofChange planTellsSpec)

/-- ITS FALSE NEIGHBOUR: 'it returns false'. Refute it at one input. -/
def planTellsWrong : ChangeSpec := { name := "planTells", fn := fun _ => fun
  | [d1, d2, d3] => { results := [.lit (.bool false)], args := [d1, d2, d3] }
  | _ => none }
def PlanTellsWrongFalsely : Prop := planTellsRow.holds Tryz.pinned (OpenSpec.ofChange planTellsWrong)

/-- 'shipfitterlaw.PlanBack': WHATEVER THE INPUT: true; the input reads as it did. -/
def planBackSpec : ChangeSpec := { name := "planBack", fn := fun _ => fun
  | [d1, d2] => { results := [.lit (.bool true)], args := [d1, d2] }
  | _ => none }
def planBackRow : OpenClaim := { program := "ytjnfemcfohflnaagreat", sum := "d061e5d3cbbb85cc10e147a626cfa26c187f4f4b19a316639d5d2d27c551ca20", func := "shipfitter/shipfitterlaw.PlanBack", spec := "planBack", inPlace := ["internal/abi.NoEscape", "internal/bytealg.MakeNoZero", "slices.overlaps[shipfitter/api.Placed]"], unfollowed := true, recurses := true, apart := false }
def PlanBackSaid : Prop := planBackRow.holds Tryz.pinned (OpenSpec.ofChange planBackSpec)

/-- ITS FALSE NEIGHBOUR: 'it returns false'. Refute it at one input. -/
def planBackWrong : ChangeSpec := { name := "planBack", fn := fun _ => fun
  | [d1, d2] => { results := [.lit (.bool false)], args := [d1, d2] }
  | _ => none }
def PlanBackWrongFalsely : Prop := planBackRow.holds Tryz.pinned (OpenSpec.ofChange planBackWrong)

/-- 'shipfitterlaw.PlanOthers': WHATEVER THE INPUT: true; the input reads as it did. -/
def planOthersSpec : ChangeSpec := { name := "planOthers", fn := fun _ => fun
  | [d1, d2, d3] => { results := [.lit (.bool true)], args := [d1, d2, d3] }
  | _ => none }
def planOthersRow : OpenClaim := { program := "ytjnfemcfohflnaagreat", sum := "d061e5d3cbbb85cc10e147a626cfa26c187f4f4b19a316639d5d2d27c551ca20", func := "shipfitter/shipfitterlaw.PlanOthers", spec := "planOthers", inPlace := ["internal/abi.NoEscape", "internal/bytealg.MakeNoZero", "slices.overlaps[shipfitter/api.Placed]"], unfollowed := true, recurses := true, apart := false }
def PlanOthersSaid : Prop := planOthersRow.holds Tryz.pinned (OpenSpec.ofChange planOthersSpec)

/-- ITS FALSE NEIGHBOUR: 'it returns false'. Refute it at one input. -/
def planOthersWrong : ChangeSpec := { name := "planOthers", fn := fun _ => fun
  | [d1, d2, d3] => { results := [.lit (.bool false)], args := [d1, d2, d3] }
  | _ => none }
def PlanOthersWrongFalsely : Prop := planOthersRow.holds Tryz.pinned (OpenSpec.ofChange planOthersWrong)

/-- 'shipfitterlaw.PlanSpace': WHATEVER THE INPUT: true; the input reads as it did. -/
def planSpaceSpec : ChangeSpec := { name := "planSpace", fn := fun _ => fun
  | [d1, d2] => { results := [.lit (.bool true)], args := [d1, d2] }
  | _ => none }
def planSpaceRow : OpenClaim := { program := "ytjnfemcfohflnaagreat", sum := "d061e5d3cbbb85cc10e147a626cfa26c187f4f4b19a316639d5d2d27c551ca20", func := "shipfitter/shipfitterlaw.PlanSpace", spec := "planSpace", inPlace := ["internal/abi.NoEscape", "internal/bytealg.MakeNoZero", "slices.overlaps[shipfitter/api.Placed]"], unfollowed := true, recurses := true, apart := false }
def PlanSpaceSaid : Prop := planSpaceRow.holds Tryz.pinned (OpenSpec.ofChange planSpaceSpec)

/-- ITS FALSE NEIGHBOUR: 'it returns false'. Refute it at one input. -/
def planSpaceWrong : ChangeSpec := { name := "planSpace", fn := fun _ => fun
  | [d1, d2] => { results := [.lit (.bool false)], args := [d1, d2] }
  | _ => none }
def PlanSpaceWrongFalsely : Prop := planSpaceRow.holds Tryz.pinned (OpenSpec.ofChange planSpaceWrong)

/-- 'shipfitterlaw.CompactRoom': WHATEVER THE INPUT: true; the input reads as it did. -/
def compactRoomSpec : ChangeSpec := { name := "compactRoom", fn := fun _ => fun
  | [d1, d2] => { results := [.lit (.bool true)], args := [d1, d2] }
  | _ => none }
def compactRoomRow : OpenClaim := { program := "ytjnfemcfohflnaagreat", sum := "d061e5d3cbbb85cc10e147a626cfa26c187f4f4b19a316639d5d2d27c551ca20", func := "shipfitter/shipfitterlaw.CompactRoom", spec := "compactRoom", inPlace := ["internal/abi.NoEscape", "internal/bytealg.MakeNoZero", "slices.overlaps[shipfitter/api.Placed]"], unfollowed := true, recurses := true, apart := false }
def CompactRoomSaid : Prop := compactRoomRow.holds Tryz.pinned (OpenSpec.ofChange compactRoomSpec)

/-- ITS FALSE NEIGHBOUR: 'it returns false'. Refute it at one input. -/
def compactRoomWrong : ChangeSpec := { name := "compactRoom", fn := fun _ => fun
  | [d1, d2] => { results := [.lit (.bool false)], args := [d1, d2] }
  | _ => none }
def CompactRoomWrongFalsely : Prop := compactRoomRow.holds Tryz.pinned (OpenSpec.ofChange compactRoomWrong)

/- THE SECOND FORM. 'bulk': how many values and letters a reading holds, each counted each time it is reached (what is shared counts as often as it is met; a slice's spare places count too). A statement '..UptoSaid' is the law's where the arguments, and the package variables that the reading takes, are together of bulk at most 1048576: NARROWER than '..Said'. Prove '..Said' where nothing that the law and all that it calls make is longer than what came in: it says more and counts as full. Else prove '..UptoSaid'. A law counts once. -/
mutual
def uptoBulk {H : Type} : DataW H → Nat
  | .lit (.string bytes) => bytes.length + 1
  | .lit _ => 1
  | .nil => 1
  | .ptr d => uptoBulk d + 1
  | .slice elems spare => uptoBulkAll elems + uptoBulkAll spare + 1
  | .agg parts => uptoBulkAll parts + 1
  | .iface _ d => uptoBulk d + 1
  | .map entries => uptoBulkEntries entries + 1
  | .held _ => 1
def uptoBulkAll {H : Type} : List (DataW H) → Nat
  | [] => 0
  | d :: r => uptoBulk d + uptoBulkAll r
def uptoBulkEntries {H : Type} : List (Lit × DataW H) → Nat
  | [] => 0
  | x :: r => uptoBulkEntry x + uptoBulkEntries r
def uptoBulkEntry {H : Type} : Lit × DataW H → Nat
  | (.string bytes, d) => bytes.length + uptoBulk d + 1
  | (_, d) => uptoBulk d + 1
 end
def uptoSmall : (H : Type) → List (DataW H) → Bool := fun _ ds => decide (uptoBulkAll ds ≤ 1048576)
def OpenSpec.upto (s : _root_.Go.ChangeSpec) : _root_.Go.OpenSpec := { _root_.Go.OpenSpec.ofChange s with cond := some uptoSmall }

/-- 'shipfitterlaw.RegistryTells', WHERE WHAT IT READS IS OF BULK AT MOST 1048576: true; the input reads as it did. -/
def registryTellsUptoRow : OpenClaim := { program := "ytjnfemcfohflnaagreat", sum := "d061e5d3cbbb85cc10e147a626cfa26c187f4f4b19a316639d5d2d27c551ca20", func := "shipfitter/shipfitterlaw.RegistryTells", spec := "registryTells", inPlace := ["internal/abi.NoEscape", "internal/bytealg.MakeNoZero"], unfollowed := true, recurses := true, apart := false, narrowed := true }
def RegistryTellsUptoSaid : Prop := registryTellsUptoRow.holds Tryz.pinned (OpenSpec.upto registryTellsSpec)

/-- 'shipfitterlaw.CompactTwice', WHERE WHAT IT READS IS OF BULK AT MOST 1048576: true; the input reads as it did. -/
def compactTwiceUptoRow : OpenClaim := { program := "ytjnfemcfohflnaagreat", sum := "d061e5d3cbbb85cc10e147a626cfa26c187f4f4b19a316639d5d2d27c551ca20", func := "shipfitter/shipfitterlaw.CompactTwice", spec := "compactTwice", inPlace := ["internal/abi.NoEscape", "internal/bytealg.MakeNoZero"], unfollowed := true, recurses := true, apart := false, narrowed := true }
def CompactTwiceUptoSaid : Prop := compactTwiceUptoRow.holds Tryz.pinned (OpenSpec.upto compactTwiceSpec)

/-- 'shipfitterlaw.CompactTells', WHERE WHAT IT READS IS OF BULK AT MOST 1048576: true; the input reads as it did. -/
def compactTellsUptoRow : OpenClaim := { program := "ytjnfemcfohflnaagreat", sum := "d061e5d3cbbb85cc10e147a626cfa26c187f4f4b19a316639d5d2d27c551ca20", func := "shipfitter/shipfitterlaw.CompactTells", spec := "compactTells", inPlace := ["internal/abi.NoEscape", "internal/bytealg.MakeNoZero"], unfollowed := true, recurses := true, apart := false, narrowed := true }
def CompactTellsUptoSaid : Prop := compactTellsUptoRow.holds Tryz.pinned (OpenSpec.upto compactTellsSpec)

/-- 'shipfitterlaw.CompactSteps', WHERE WHAT IT READS IS OF BULK AT MOST 1048576: true; the input reads as it did. -/
def compactStepsUptoRow : OpenClaim := { program := "ytjnfemcfohflnaagreat", sum := "d061e5d3cbbb85cc10e147a626cfa26c187f4f4b19a316639d5d2d27c551ca20", func := "shipfitter/shipfitterlaw.CompactSteps", spec := "compactSteps", inPlace := ["internal/abi.NoEscape", "internal/bytealg.MakeNoZero"], unfollowed := true, recurses := true, apart := false, narrowed := true }
def CompactStepsUptoSaid : Prop := compactStepsUptoRow.holds Tryz.pinned (OpenSpec.upto compactStepsSpec)

/-- 'shipfitterlaw.RegistryWhole', WHERE WHAT IT READS IS OF BULK AT MOST 1048576: true; the input reads as it did. -/
def registryWholeUptoRow : OpenClaim := { program := "ytjnfemcfohflnaagreat", sum := "d061e5d3cbbb85cc10e147a626cfa26c187f4f4b19a316639d5d2d27c551ca20", func := "shipfitter/shipfitterlaw.RegistryWhole", spec := "registryWhole", inPlace := ["internal/abi.NoEscape", "internal/bytealg.MakeNoZero"], unfollowed := true, recurses := true, apart := false, narrowed := true }
def RegistryWholeUptoSaid : Prop := registryWholeUptoRow.holds Tryz.pinned (OpenSpec.upto registryWholeSpec)

/-- 'shipfitterlaw.PlanTells', WHERE WHAT IT READS IS OF BULK AT MOST 1048576: true; the input reads as it did. -/
def planTellsUptoRow : OpenClaim := { program := "ytjnfemcfohflnaagreat", sum := "d061e5d3cbbb85cc10e147a626cfa26c187f4f4b19a316639d5d2d27c551ca20", func := "shipfitter/shipfitterlaw.PlanTells", spec := "planTells", inPlace := ["internal/abi.NoEscape", "internal/bytealg.MakeNoZero", "slices.overlaps[shipfitter/api.Placed]"], unfollowed := true, recurses := true, apart := false, narrowed := true }
def PlanTellsUptoSaid : Prop := planTellsUptoRow.holds Tryz.pinned (OpenSpec.upto planTellsSpec)

/-- 'shipfitterlaw.PlanBack', WHERE WHAT IT READS IS OF BULK AT MOST 1048576: true; the input reads as it did. -/
def planBackUptoRow : OpenClaim := { program := "ytjnfemcfohflnaagreat", sum := "d061e5d3cbbb85cc10e147a626cfa26c187f4f4b19a316639d5d2d27c551ca20", func := "shipfitter/shipfitterlaw.PlanBack", spec := "planBack", inPlace := ["internal/abi.NoEscape", "internal/bytealg.MakeNoZero", "slices.overlaps[shipfitter/api.Placed]"], unfollowed := true, recurses := true, apart := false, narrowed := true }
def PlanBackUptoSaid : Prop := planBackUptoRow.holds Tryz.pinned (OpenSpec.upto planBackSpec)

/-- 'shipfitterlaw.PlanOthers', WHERE WHAT IT READS IS OF BULK AT MOST 1048576: true; the input reads as it did. -/
def planOthersUptoRow : OpenClaim := { program := "ytjnfemcfohflnaagreat", sum := "d061e5d3cbbb85cc10e147a626cfa26c187f4f4b19a316639d5d2d27c551ca20", func := "shipfitter/shipfitterlaw.PlanOthers", spec := "planOthers", inPlace := ["internal/abi.NoEscape", "internal/bytealg.MakeNoZero", "slices.overlaps[shipfitter/api.Placed]"], unfollowed := true, recurses := true, apart := false, narrowed := true }
def PlanOthersUptoSaid : Prop := planOthersUptoRow.holds Tryz.pinned (OpenSpec.upto planOthersSpec)

/-- 'shipfitterlaw.PlanSpace', WHERE WHAT IT READS IS OF BULK AT MOST 1048576: true; the input reads as it did. -/
def planSpaceUptoRow : OpenClaim := { program := "ytjnfemcfohflnaagreat", sum := "d061e5d3cbbb85cc10e147a626cfa26c187f4f4b19a316639d5d2d27c551ca20", func := "shipfitter/shipfitterlaw.PlanSpace", spec := "planSpace", inPlace := ["internal/abi.NoEscape", "internal/bytealg.MakeNoZero", "slices.overlaps[shipfitter/api.Placed]"], unfollowed := true, recurses := true, apart := false, narrowed := true }
def PlanSpaceUptoSaid : Prop := planSpaceUptoRow.holds Tryz.pinned (OpenSpec.upto planSpaceSpec)

/-- 'shipfitterlaw.CompactRoom', WHERE WHAT IT READS IS OF BULK AT MOST 1048576: true; the input reads as it did. -/
def compactRoomUptoRow : OpenClaim := { program := "ytjnfemcfohflnaagreat", sum := "d061e5d3cbbb85cc10e147a626cfa26c187f4f4b19a316639d5d2d27c551ca20", func := "shipfitter/shipfitterlaw.CompactRoom", spec := "compactRoom", inPlace := ["internal/abi.NoEscape", "internal/bytealg.MakeNoZero", "slices.overlaps[shipfitter/api.Placed]"], unfollowed := true, recurses := true, apart := false, narrowed := true }
def CompactRoomUptoSaid : Prop := compactRoomUptoRow.holds Tryz.pinned (OpenSpec.upto compactRoomSpec)

end Rows
end Go.Proofs.YtjnfemcfohflnaaGreat
