/-
  No cell of these rows narrows 'for every input' (looked for: loops, veiled, ifaces, maps, wideKeys, modest, calm, conditions, laid).
  DERIVED. THE GIVEN ROWS OF THIS SEAT. 8 by the template 'for every input the law returns true; each argument reads behind the call as it read before'; 0 by the template 'total and deterministic' (their statements: YtdpacbdejfjkcaaTotals.lean).
  GIVEN WITH THE SEED: the statements are not yours to turn. If you find one false, say at which input.
  Laid BY PROGRAM, IN A SANDBOX (cutbox-rows.mjs): the forced cells as the released guide's own fill.sh prints them over the translation a177889df5dfc057… (all of the seat's roots in one cut). By AI agents, Wed Nov 11 2026. No macro, syntax, notation, axiom, sorry.
-/
import Derived.Test.YtdpacbdejfjkcaaChecked
import GoSem.Claim
import GoSem.ClaimJoined
import GoSem.ClaimMapViews
import Derived.JoinedTies
import Derived.KernelRfl
namespace Go.Proofs.Ytdpacbdejfjkcaa
/- THE CELL 'sum', in the pinned program and in every row, IS THE sha256 OF THE DUMP (.gsa) THAT YtdpacbdejfjkcaaProg.lean LOADS. Nothing in Lean hashes anything: it is a label: what it is worth is what the hold of that sum in a sandbox is worth. -/
noncomputable def Try.pinned : Pinned := { name := "ytdpacbdejfjkcaa", sum := "a177889df5dfc05721ff4b07d9b29d46065efcfa5272d8eaeb07ba1370a1f6b4", checked := Try.checked }
namespace Rows
def none {H : Type} : Left H := { results := [], args := [] }

/-- 'shipfitterlaw.RegionTells': WHATEVER THE INPUT: true; the input reads as it did. -/
def regionTellsSpec : ChangeSpec := { name := "regionTells", fn := fun _ => fun
  | [d1, d2, d3] => { results := [.lit (.bool true)], args := [d1, d2, d3] }
  | _ => none }
def regionTellsRow : OpenClaim := { program := "ytdpacbdejfjkcaa", sum := "a177889df5dfc05721ff4b07d9b29d46065efcfa5272d8eaeb07ba1370a1f6b4", func := "shipfitter/shipfitterlaw.RegionTells", spec := "regionTells", unfollowed := true, recurses := true, apart := false }
def RegionTellsSaid : Prop := regionTellsRow.holds Try.pinned (OpenSpec.ofChange regionTellsSpec)

/-- ITS FALSE NEIGHBOUR: 'it returns false'. Refute it at one input. -/
def regionTellsWrong : ChangeSpec := { name := "regionTells", fn := fun _ => fun
  | [d1, d2, d3] => { results := [.lit (.bool false)], args := [d1, d2, d3] }
  | _ => none }
def RegionTellsWrongFalsely : Prop := regionTellsRow.holds Try.pinned (OpenSpec.ofChange regionTellsWrong)

/-- 'shipfitterlaw.RegionClear': WHATEVER THE INPUT: true; the input reads as it did. -/
def regionClearSpec : ChangeSpec := { name := "regionClear", fn := fun _ => fun
  | [d1, d2] => { results := [.lit (.bool true)], args := [d1, d2] }
  | _ => none }
def regionClearRow : OpenClaim := { program := "ytdpacbdejfjkcaa", sum := "a177889df5dfc05721ff4b07d9b29d46065efcfa5272d8eaeb07ba1370a1f6b4", func := "shipfitter/shipfitterlaw.RegionClear", spec := "regionClear", unfollowed := true, recurses := true, apart := false }
def RegionClearSaid : Prop := regionClearRow.holds Try.pinned (OpenSpec.ofChange regionClearSpec)

/-- ITS FALSE NEIGHBOUR: 'it returns false'. Refute it at one input. -/
def regionClearWrong : ChangeSpec := { name := "regionClear", fn := fun _ => fun
  | [d1, d2] => { results := [.lit (.bool false)], args := [d1, d2] }
  | _ => none }
def RegionClearWrongFalsely : Prop := regionClearRow.holds Try.pinned (OpenSpec.ofChange regionClearWrong)

/-- 'shipfitterlaw.RegionRuns': WHATEVER THE INPUT: true; the input reads as it did. -/
def regionRunsSpec : ChangeSpec := { name := "regionRuns", fn := fun _ => fun
  | [d] => { results := [.lit (.bool true)], args := [d] }
  | _ => none }
def regionRunsRow : OpenClaim := { program := "ytdpacbdejfjkcaa", sum := "a177889df5dfc05721ff4b07d9b29d46065efcfa5272d8eaeb07ba1370a1f6b4", func := "shipfitter/shipfitterlaw.RegionRuns", spec := "regionRuns", unfollowed := true, recurses := true, apart := false }
def RegionRunsSaid : Prop := regionRunsRow.holds Try.pinned (OpenSpec.ofChange regionRunsSpec)

/-- ITS FALSE NEIGHBOUR: 'it returns false'. Refute it at one input. -/
def regionRunsWrong : ChangeSpec := { name := "regionRuns", fn := fun _ => fun
  | [d] => { results := [.lit (.bool false)], args := [d] }
  | _ => none }
def RegionRunsWrongFalsely : Prop := regionRunsRow.holds Try.pinned (OpenSpec.ofChange regionRunsWrong)

/-- 'shipfitterlaw.ResolveTells': WHATEVER THE INPUT: true; the input reads as it did. -/
def resolveTellsSpec : ChangeSpec := { name := "resolveTells", fn := fun _ => fun
  | [d1, d2, d3, d4] => { results := [.lit (.bool true)], args := [d1, d2, d3, d4] }
  | _ => none }
def resolveTellsRow : OpenClaim := { program := "ytdpacbdejfjkcaa", sum := "a177889df5dfc05721ff4b07d9b29d46065efcfa5272d8eaeb07ba1370a1f6b4", func := "shipfitter/shipfitterlaw.ResolveTells", spec := "resolveTells", unfollowed := true, recurses := true, apart := false }
def ResolveTellsSaid : Prop := resolveTellsRow.holds Try.pinned (OpenSpec.ofChange resolveTellsSpec)

/-- ITS FALSE NEIGHBOUR: 'it returns false'. Refute it at one input. -/
def resolveTellsWrong : ChangeSpec := { name := "resolveTells", fn := fun _ => fun
  | [d1, d2, d3, d4] => { results := [.lit (.bool false)], args := [d1, d2, d3, d4] }
  | _ => none }
def ResolveTellsWrongFalsely : Prop := resolveTellsRow.holds Try.pinned (OpenSpec.ofChange resolveTellsWrong)

/-- 'shipfitterlaw.ResolveWithin': WHATEVER THE INPUT: true; the input reads as it did. -/
def resolveWithinSpec : ChangeSpec := { name := "resolveWithin", fn := fun _ => fun
  | [d1, d2, d3] => { results := [.lit (.bool true)], args := [d1, d2, d3] }
  | _ => none }
def resolveWithinRow : OpenClaim := { program := "ytdpacbdejfjkcaa", sum := "a177889df5dfc05721ff4b07d9b29d46065efcfa5272d8eaeb07ba1370a1f6b4", func := "shipfitter/shipfitterlaw.ResolveWithin", spec := "resolveWithin", unfollowed := true, recurses := true, apart := false }
def ResolveWithinSaid : Prop := resolveWithinRow.holds Try.pinned (OpenSpec.ofChange resolveWithinSpec)

/-- ITS FALSE NEIGHBOUR: 'it returns false'. Refute it at one input. -/
def resolveWithinWrong : ChangeSpec := { name := "resolveWithin", fn := fun _ => fun
  | [d1, d2, d3] => { results := [.lit (.bool false)], args := [d1, d2, d3] }
  | _ => none }
def ResolveWithinWrongFalsely : Prop := resolveWithinRow.holds Try.pinned (OpenSpec.ofChange resolveWithinWrong)

/-- 'shipfitterlaw.ResolveOther': WHATEVER THE INPUT: true; the input reads as it did. -/
def resolveOtherSpec : ChangeSpec := { name := "resolveOther", fn := fun _ => fun
  | [d1, d2, d3, d4] => { results := [.lit (.bool true)], args := [d1, d2, d3, d4] }
  | _ => none }
def resolveOtherRow : OpenClaim := { program := "ytdpacbdejfjkcaa", sum := "a177889df5dfc05721ff4b07d9b29d46065efcfa5272d8eaeb07ba1370a1f6b4", func := "shipfitter/shipfitterlaw.ResolveOther", spec := "resolveOther", unfollowed := true, recurses := true, apart := false }
def ResolveOtherSaid : Prop := resolveOtherRow.holds Try.pinned (OpenSpec.ofChange resolveOtherSpec)

/-- ITS FALSE NEIGHBOUR: 'it returns false'. Refute it at one input. -/
def resolveOtherWrong : ChangeSpec := { name := "resolveOther", fn := fun _ => fun
  | [d1, d2, d3, d4] => { results := [.lit (.bool false)], args := [d1, d2, d3, d4] }
  | _ => none }
def ResolveOtherWrongFalsely : Prop := resolveOtherRow.holds Try.pinned (OpenSpec.ofChange resolveOtherWrong)

/-- 'shipfitterlaw.ModuleTells': WHATEVER THE INPUT: true; the input reads as it did. -/
def moduleTellsSpec : ChangeSpec := { name := "moduleTells", fn := fun _ => fun
  | [d1, d2] => { results := [.lit (.bool true)], args := [d1, d2] }
  | _ => none }
def moduleTellsRow : OpenClaim := { program := "ytdpacbdejfjkcaa", sum := "a177889df5dfc05721ff4b07d9b29d46065efcfa5272d8eaeb07ba1370a1f6b4", func := "shipfitter/shipfitterlaw.ModuleTells", spec := "moduleTells", inPlace := ["internal/abi.NoEscape"], unfollowed := true, recurses := true, apart := false }
def ModuleTellsSaid : Prop := moduleTellsRow.holds Try.pinned (OpenSpec.ofChange moduleTellsSpec)

/-- ITS FALSE NEIGHBOUR: 'it returns false'. Refute it at one input. -/
def moduleTellsWrong : ChangeSpec := { name := "moduleTells", fn := fun _ => fun
  | [d1, d2] => { results := [.lit (.bool false)], args := [d1, d2] }
  | _ => none }
def ModuleTellsWrongFalsely : Prop := moduleTellsRow.holds Try.pinned (OpenSpec.ofChange moduleTellsWrong)

/-- 'shipfitterlaw.ModuleBack': WHATEVER THE INPUT: true; the input reads as it did. -/
def moduleBackSpec : ChangeSpec := { name := "moduleBack", fn := fun _ => fun
  | [d1, d2] => { results := [.lit (.bool true)], args := [d1, d2] }
  | _ => none }
def moduleBackRow : OpenClaim := { program := "ytdpacbdejfjkcaa", sum := "a177889df5dfc05721ff4b07d9b29d46065efcfa5272d8eaeb07ba1370a1f6b4", func := "shipfitter/shipfitterlaw.ModuleBack", spec := "moduleBack", inPlace := ["internal/abi.NoEscape"], unfollowed := true, recurses := true, apart := false }
def ModuleBackSaid : Prop := moduleBackRow.holds Try.pinned (OpenSpec.ofChange moduleBackSpec)

/-- ITS FALSE NEIGHBOUR: 'it returns false'. Refute it at one input. -/
def moduleBackWrong : ChangeSpec := { name := "moduleBack", fn := fun _ => fun
  | [d1, d2] => { results := [.lit (.bool false)], args := [d1, d2] }
  | _ => none }
def ModuleBackWrongFalsely : Prop := moduleBackRow.holds Try.pinned (OpenSpec.ofChange moduleBackWrong)

/- THE SECOND FORM. 'bulk': how many values and letters a reading holds, each counted each time it is reached (what is shared counts as often as it is met; a slice's spare places count too). A statement '..UptoSaid' is the law's where the arguments, and the package variables that the reading takes, are together of bulk at most 1048576: NARROWER than '..Said'. Prove '..Said' where nothing that the law and all that it calls make is longer than what came in: it says more and counts as full. Else prove '..UptoSaid'. A law counts once. -/
mutual
def uptoBulk {H : Type} : DataW H → Nat
  | .lit (.string bytes) => bytes.length + 1
  | .lit _ => 1
  | .nil => 1
  | .ptr d => uptoBulk d + 1
  | .slice elems spare => uptoBulkAll elems + uptoBulkAll spare + 1
  | .agg parts => uptoBulkAll parts + 1
  | .iface _ d => uptoBulk d + 1
  | .map entries => uptoBulkEntries entries + 1
  | .held _ => 1
def uptoBulkAll {H : Type} : List (DataW H) → Nat
  | [] => 0
  | d :: r => uptoBulk d + uptoBulkAll r
def uptoBulkEntries {H : Type} : List (Lit × DataW H) → Nat
  | [] => 0
  | x :: r => uptoBulkEntry x + uptoBulkEntries r
def uptoBulkEntry {H : Type} : Lit × DataW H → Nat
  | (.string bytes, d) => bytes.length + uptoBulk d + 1
  | (_, d) => uptoBulk d + 1
 end
def uptoSmall : (H : Type) → List (DataW H) → Bool := fun _ ds => decide (uptoBulkAll ds ≤ 1048576)
def OpenSpec.upto (s : _root_.Go.ChangeSpec) : _root_.Go.OpenSpec := { _root_.Go.OpenSpec.ofChange s with cond := some uptoSmall }

/-- 'shipfitterlaw.RegionTells', WHERE WHAT IT READS IS OF BULK AT MOST 1048576: true; the input reads as it did. -/
def regionTellsUptoRow : OpenClaim := { program := "ytdpacbdejfjkcaa", sum := "a177889df5dfc05721ff4b07d9b29d46065efcfa5272d8eaeb07ba1370a1f6b4", func := "shipfitter/shipfitterlaw.RegionTells", spec := "regionTells", unfollowed := true, recurses := true, apart := false, narrowed := true }
def RegionTellsUptoSaid : Prop := regionTellsUptoRow.holds Try.pinned (OpenSpec.upto regionTellsSpec)

/-- 'shipfitterlaw.RegionClear', WHERE WHAT IT READS IS OF BULK AT MOST 1048576: true; the input reads as it did. -/
def regionClearUptoRow : OpenClaim := { program := "ytdpacbdejfjkcaa", sum := "a177889df5dfc05721ff4b07d9b29d46065efcfa5272d8eaeb07ba1370a1f6b4", func := "shipfitter/shipfitterlaw.RegionClear", spec := "regionClear", unfollowed := true, recurses := true, apart := false, narrowed := true }
def RegionClearUptoSaid : Prop := regionClearUptoRow.holds Try.pinned (OpenSpec.upto regionClearSpec)

/-- 'shipfitterlaw.RegionRuns', WHERE WHAT IT READS IS OF BULK AT MOST 1048576: true; the input reads as it did. -/
def regionRunsUptoRow : OpenClaim := { program := "ytdpacbdejfjkcaa", sum := "a177889df5dfc05721ff4b07d9b29d46065efcfa5272d8eaeb07ba1370a1f6b4", func := "shipfitter/shipfitterlaw.RegionRuns", spec := "regionRuns", unfollowed := true, recurses := true, apart := false, narrowed := true }
def RegionRunsUptoSaid : Prop := regionRunsUptoRow.holds Try.pinned (OpenSpec.upto regionRunsSpec)

/-- 'shipfitterlaw.ResolveTells', WHERE WHAT IT READS IS OF BULK AT MOST 1048576: true; the input reads as it did. -/
def resolveTellsUptoRow : OpenClaim := { program := "ytdpacbdejfjkcaa", sum := "a177889df5dfc05721ff4b07d9b29d46065efcfa5272d8eaeb07ba1370a1f6b4", func := "shipfitter/shipfitterlaw.ResolveTells", spec := "resolveTells", unfollowed := true, recurses := true, apart := false, narrowed := true }
def ResolveTellsUptoSaid : Prop := resolveTellsUptoRow.holds Try.pinned (OpenSpec.upto resolveTellsSpec)

/-- 'shipfitterlaw.ResolveWithin', WHERE WHAT IT READS IS OF BULK AT MOST 1048576: true; the input reads as it did. -/
def resolveWithinUptoRow : OpenClaim := { program := "ytdpacbdejfjkcaa", sum := "a177889df5dfc05721ff4b07d9b29d46065efcfa5272d8eaeb07ba1370a1f6b4", func := "shipfitter/shipfitterlaw.ResolveWithin", spec := "resolveWithin", unfollowed := true, recurses := true, apart := false, narrowed := true }
def ResolveWithinUptoSaid : Prop := resolveWithinUptoRow.holds Try.pinned (OpenSpec.upto resolveWithinSpec)

/-- 'shipfitterlaw.ResolveOther', WHERE WHAT IT READS IS OF BULK AT MOST 1048576: true; the input reads as it did. -/
def resolveOtherUptoRow : OpenClaim := { program := "ytdpacbdejfjkcaa", sum := "a177889df5dfc05721ff4b07d9b29d46065efcfa5272d8eaeb07ba1370a1f6b4", func := "shipfitter/shipfitterlaw.ResolveOther", spec := "resolveOther", unfollowed := true, recurses := true, apart := false, narrowed := true }
def ResolveOtherUptoSaid : Prop := resolveOtherUptoRow.holds Try.pinned (OpenSpec.upto resolveOtherSpec)

/-- 'shipfitterlaw.ModuleTells', WHERE WHAT IT READS IS OF BULK AT MOST 1048576: true; the input reads as it did. -/
def moduleTellsUptoRow : OpenClaim := { program := "ytdpacbdejfjkcaa", sum := "a177889df5dfc05721ff4b07d9b29d46065efcfa5272d8eaeb07ba1370a1f6b4", func := "shipfitter/shipfitterlaw.ModuleTells", spec := "moduleTells", inPlace := ["internal/abi.NoEscape"], unfollowed := true, recurses := true, apart := false, narrowed := true }
def ModuleTellsUptoSaid : Prop := moduleTellsUptoRow.holds Try.pinned (OpenSpec.upto moduleTellsSpec)

/-- 'shipfitterlaw.ModuleBack', WHERE WHAT IT READS IS OF BULK AT MOST 1048576: true; the input reads as it did. -/
def moduleBackUptoRow : OpenClaim := { program := "ytdpacbdejfjkcaa", sum := "a177889df5dfc05721ff4b07d9b29d46065efcfa5272d8eaeb07ba1370a1f6b4", func := "shipfitter/shipfitterlaw.ModuleBack", spec := "moduleBack", inPlace := ["internal/abi.NoEscape"], unfollowed := true, recurses := true, apart := false, narrowed := true }
def ModuleBackUptoSaid : Prop := moduleBackUptoRow.holds Try.pinned (OpenSpec.upto moduleBackSpec)

end Rows
end Go.Proofs.Ytdpacbdejfjkcaa
