/-
  No cell of these rows narrows 'for every input' (looked for: loops, veiled, ifaces, maps, wideKeys, modest, calm, conditions, laid).
  DERIVED. THE GIVEN ROWS OF THIS SEAT. 6 by the template 'for every input the law returns true; each argument reads behind the call as it read before'; 0 by the template 'total and deterministic' (their statements: YtjlbcaiionmcnaaTotals.lean).
  GIVEN WITH THE SEED: the statements are not yours to turn. If you find one false, say at which input.
  Laid BY PROGRAM, IN A SANDBOX (cutbox-rows.mjs): the forced cells as the released guide's own fill.sh prints them over the translation c49e893939a5cd58… (all of the seat's roots in one cut). By AI agents, Wed Nov 11 2026. No macro, syntax, notation, axiom, sorry.
-/
import Derived.Test.YtjlbcaiionmcnaaChecked
import GoSem.Claim
import GoSem.ClaimJoined
import GoSem.ClaimMapViews
import Derived.JoinedTies
import Derived.KernelRfl
namespace Go.Proofs.Ytjlbcaiionmcnaa
/- THE CELL 'sum', in the pinned program and in every row, IS THE sha256 OF THE DUMP (.gsa) THAT YtjlbcaiionmcnaaProg.lean LOADS. Nothing in Lean hashes anything: it is a label: what it is worth is what the hold of that sum in a sandbox is worth. -/
noncomputable def Try.pinned : Pinned := { name := "ytjlbcaiionmcnaa", sum := "c49e893939a5cd58c08c5489e9b99d1e775df4c9983bf1543ede0453edb27308", checked := Try.checked }
namespace Rows
def none {H : Type} : Left H := { results := [], args := [] }

/-- 'shipfitterlaw.WordTells': WHATEVER THE INPUT: true; the input reads as it did. -/
def wordTellsSpec : ChangeSpec := { name := "wordTells", fn := fun _ => fun
  | [d1, d2, d3, d4, d5] => { results := [.lit (.bool true)], args := [d1, d2, d3, d4, d5] }
  | _ => none }
def wordTellsRow : OpenClaim := { program := "ytjlbcaiionmcnaa", sum := "c49e893939a5cd58c08c5489e9b99d1e775df4c9983bf1543ede0453edb27308", func := "shipfitter/shipfitterlaw.WordTells", spec := "wordTells", unfollowed := true, recurses := true, apart := false }
def WordTellsSaid : Prop := wordTellsRow.holds Try.pinned (OpenSpec.ofChange wordTellsSpec)

/-- ITS FALSE NEIGHBOUR: 'it returns false'. Refute it at one input. -/
def wordTellsWrong : ChangeSpec := { name := "wordTells", fn := fun _ => fun
  | [d1, d2, d3, d4, d5] => { results := [.lit (.bool false)], args := [d1, d2, d3, d4, d5] }
  | _ => none }
def WordTellsWrongFalsely : Prop := wordTellsRow.holds Try.pinned (OpenSpec.ofChange wordTellsWrong)

/-- 'shipfitterlaw.WordBack': WHATEVER THE INPUT: true; the input reads as it did. -/
def wordBackSpec : ChangeSpec := { name := "wordBack", fn := fun _ => fun
  | [d1, d2, d3, d4] => { results := [.lit (.bool true)], args := [d1, d2, d3, d4] }
  | _ => none }
def wordBackRow : OpenClaim := { program := "ytjlbcaiionmcnaa", sum := "c49e893939a5cd58c08c5489e9b99d1e775df4c9983bf1543ede0453edb27308", func := "shipfitter/shipfitterlaw.WordBack", spec := "wordBack", unfollowed := true, recurses := true, apart := false }
def WordBackSaid : Prop := wordBackRow.holds Try.pinned (OpenSpec.ofChange wordBackSpec)

/-- ITS FALSE NEIGHBOUR: 'it returns false'. Refute it at one input. -/
def wordBackWrong : ChangeSpec := { name := "wordBack", fn := fun _ => fun
  | [d1, d2, d3, d4] => { results := [.lit (.bool false)], args := [d1, d2, d3, d4] }
  | _ => none }
def WordBackWrongFalsely : Prop := wordBackRow.holds Try.pinned (OpenSpec.ofChange wordBackWrong)

/-- 'shipfitterlaw.WordSigned': WHATEVER THE INPUT: true; the input reads as it did. -/
def wordSignedSpec : ChangeSpec := { name := "wordSigned", fn := fun _ => fun
  | [d1, d2] => { results := [.lit (.bool true)], args := [d1, d2] }
  | _ => none }
def wordSignedRow : OpenClaim := { program := "ytjlbcaiionmcnaa", sum := "c49e893939a5cd58c08c5489e9b99d1e775df4c9983bf1543ede0453edb27308", func := "shipfitter/shipfitterlaw.WordSigned", spec := "wordSigned", unfollowed := true, recurses := true, apart := false }
def WordSignedSaid : Prop := wordSignedRow.holds Try.pinned (OpenSpec.ofChange wordSignedSpec)

/-- ITS FALSE NEIGHBOUR: 'it returns false'. Refute it at one input. -/
def wordSignedWrong : ChangeSpec := { name := "wordSigned", fn := fun _ => fun
  | [d1, d2] => { results := [.lit (.bool false)], args := [d1, d2] }
  | _ => none }
def WordSignedWrongFalsely : Prop := wordSignedRow.holds Try.pinned (OpenSpec.ofChange wordSignedWrong)

/-- 'shipfitterlaw.PatchTells': WHATEVER THE INPUT: true; the input reads as it did. -/
def patchTellsSpec : ChangeSpec := { name := "patchTells", fn := fun _ => fun
  | [d1, d2, d3, d4] => { results := [.lit (.bool true)], args := [d1, d2, d3, d4] }
  | _ => none }
def patchTellsRow : OpenClaim := { program := "ytjlbcaiionmcnaa", sum := "c49e893939a5cd58c08c5489e9b99d1e775df4c9983bf1543ede0453edb27308", func := "shipfitter/shipfitterlaw.PatchTells", spec := "patchTells", unfollowed := true, recurses := true, apart := false }
def PatchTellsSaid : Prop := patchTellsRow.holds Try.pinned (OpenSpec.ofChange patchTellsSpec)

/-- ITS FALSE NEIGHBOUR: 'it returns false'. Refute it at one input. -/
def patchTellsWrong : ChangeSpec := { name := "patchTells", fn := fun _ => fun
  | [d1, d2, d3, d4] => { results := [.lit (.bool false)], args := [d1, d2, d3, d4] }
  | _ => none }
def PatchTellsWrongFalsely : Prop := patchTellsRow.holds Try.pinned (OpenSpec.ofChange patchTellsWrong)

/-- 'shipfitterlaw.PatchMoved': WHATEVER THE INPUT: true; the input reads as it did. -/
def patchMovedSpec : ChangeSpec := { name := "patchMoved", fn := fun _ => fun
  | [d1, d2, d3, d4, d5] => { results := [.lit (.bool true)], args := [d1, d2, d3, d4, d5] }
  | _ => none }
def patchMovedRow : OpenClaim := { program := "ytjlbcaiionmcnaa", sum := "c49e893939a5cd58c08c5489e9b99d1e775df4c9983bf1543ede0453edb27308", func := "shipfitter/shipfitterlaw.PatchMoved", spec := "patchMoved", unfollowed := true, recurses := true, apart := false }
def PatchMovedSaid : Prop := patchMovedRow.holds Try.pinned (OpenSpec.ofChange patchMovedSpec)

/-- ITS FALSE NEIGHBOUR: 'it returns false'. Refute it at one input. -/
def patchMovedWrong : ChangeSpec := { name := "patchMoved", fn := fun _ => fun
  | [d1, d2, d3, d4, d5] => { results := [.lit (.bool false)], args := [d1, d2, d3, d4, d5] }
  | _ => none }
def PatchMovedWrongFalsely : Prop := patchMovedRow.holds Try.pinned (OpenSpec.ofChange patchMovedWrong)

/-- 'shipfitterlaw.PatchThere': WHATEVER THE INPUT: true; the input reads as it did. -/
def patchThereSpec : ChangeSpec := { name := "patchThere", fn := fun _ => fun
  | [d1, d2, d3, d4] => { results := [.lit (.bool true)], args := [d1, d2, d3, d4] }
  | _ => none }
def patchThereRow : OpenClaim := { program := "ytjlbcaiionmcnaa", sum := "c49e893939a5cd58c08c5489e9b99d1e775df4c9983bf1543ede0453edb27308", func := "shipfitter/shipfitterlaw.PatchThere", spec := "patchThere", unfollowed := true, recurses := true, apart := false }
def PatchThereSaid : Prop := patchThereRow.holds Try.pinned (OpenSpec.ofChange patchThereSpec)

/-- ITS FALSE NEIGHBOUR: 'it returns false'. Refute it at one input. -/
def patchThereWrong : ChangeSpec := { name := "patchThere", fn := fun _ => fun
  | [d1, d2, d3, d4] => { results := [.lit (.bool false)], args := [d1, d2, d3, d4] }
  | _ => none }
def PatchThereWrongFalsely : Prop := patchThereRow.holds Try.pinned (OpenSpec.ofChange patchThereWrong)

/- THE SECOND FORM. 'bulk': how many values and letters a reading holds, each counted each time it is reached (what is shared counts as often as it is met; a slice's spare places count too). A statement '..UptoSaid' is the law's where the arguments, and the package variables that the reading takes, are together of bulk at most 1048576: NARROWER than '..Said'. Prove '..Said' where nothing that the law and all that it calls make is longer than what came in: it says more and counts as full. Else prove '..UptoSaid'. A law counts once. -/
mutual
def uptoBulk {H : Type} : DataW H → Nat
  | .lit (.string bytes) => bytes.length + 1
  | .lit _ => 1
  | .nil => 1
  | .ptr d => uptoBulk d + 1
  | .slice elems spare => uptoBulkAll elems + uptoBulkAll spare + 1
  | .agg parts => uptoBulkAll parts + 1
  | .iface _ d => uptoBulk d + 1
  | .map entries => uptoBulkEntries entries + 1
  | .held _ => 1
def uptoBulkAll {H : Type} : List (DataW H) → Nat
  | [] => 0
  | d :: r => uptoBulk d + uptoBulkAll r
def uptoBulkEntries {H : Type} : List (Lit × DataW H) → Nat
  | [] => 0
  | x :: r => uptoBulkEntry x + uptoBulkEntries r
def uptoBulkEntry {H : Type} : Lit × DataW H → Nat
  | (.string bytes, d) => bytes.length + uptoBulk d + 1
  | (_, d) => uptoBulk d + 1
 end
def uptoSmall : (H : Type) → List (DataW H) → Bool := fun _ ds => decide (uptoBulkAll ds ≤ 1048576)
def OpenSpec.upto (s : _root_.Go.ChangeSpec) : _root_.Go.OpenSpec := { _root_.Go.OpenSpec.ofChange s with cond := some uptoSmall }

/-- 'shipfitterlaw.WordTells', WHERE WHAT IT READS IS OF BULK AT MOST 1048576: true; the input reads as it did. -/
def wordTellsUptoRow : OpenClaim := { program := "ytjlbcaiionmcnaa", sum := "c49e893939a5cd58c08c5489e9b99d1e775df4c9983bf1543ede0453edb27308", func := "shipfitter/shipfitterlaw.WordTells", spec := "wordTells", unfollowed := true, recurses := true, apart := false, narrowed := true }
def WordTellsUptoSaid : Prop := wordTellsUptoRow.holds Try.pinned (OpenSpec.upto wordTellsSpec)

/-- 'shipfitterlaw.WordBack', WHERE WHAT IT READS IS OF BULK AT MOST 1048576: true; the input reads as it did. -/
def wordBackUptoRow : OpenClaim := { program := "ytjlbcaiionmcnaa", sum := "c49e893939a5cd58c08c5489e9b99d1e775df4c9983bf1543ede0453edb27308", func := "shipfitter/shipfitterlaw.WordBack", spec := "wordBack", unfollowed := true, recurses := true, apart := false, narrowed := true }
def WordBackUptoSaid : Prop := wordBackUptoRow.holds Try.pinned (OpenSpec.upto wordBackSpec)

/-- 'shipfitterlaw.WordSigned', WHERE WHAT IT READS IS OF BULK AT MOST 1048576: true; the input reads as it did. -/
def wordSignedUptoRow : OpenClaim := { program := "ytjlbcaiionmcnaa", sum := "c49e893939a5cd58c08c5489e9b99d1e775df4c9983bf1543ede0453edb27308", func := "shipfitter/shipfitterlaw.WordSigned", spec := "wordSigned", unfollowed := true, recurses := true, apart := false, narrowed := true }
def WordSignedUptoSaid : Prop := wordSignedUptoRow.holds Try.pinned (OpenSpec.upto wordSignedSpec)

/-- 'shipfitterlaw.PatchTells', WHERE WHAT IT READS IS OF BULK AT MOST 1048576: true; the input reads as it did. -/
def patchTellsUptoRow : OpenClaim := { program := "ytjlbcaiionmcnaa", sum := "c49e893939a5cd58c08c5489e9b99d1e775df4c9983bf1543ede0453edb27308", func := "shipfitter/shipfitterlaw.PatchTells", spec := "patchTells", unfollowed := true, recurses := true, apart := false, narrowed := true }
def PatchTellsUptoSaid : Prop := patchTellsUptoRow.holds Try.pinned (OpenSpec.upto patchTellsSpec)

/-- 'shipfitterlaw.PatchMoved', WHERE WHAT IT READS IS OF BULK AT MOST 1048576: true; the input reads as it did. -/
def patchMovedUptoRow : OpenClaim := { program := "ytjlbcaiionmcnaa", sum := "c49e893939a5cd58c08c5489e9b99d1e775df4c9983bf1543ede0453edb27308", func := "shipfitter/shipfitterlaw.PatchMoved", spec := "patchMoved", unfollowed := true, recurses := true, apart := false, narrowed := true }
def PatchMovedUptoSaid : Prop := patchMovedUptoRow.holds Try.pinned (OpenSpec.upto patchMovedSpec)

/-- 'shipfitterlaw.PatchThere', WHERE WHAT IT READS IS OF BULK AT MOST 1048576: true; the input reads as it did. -/
def patchThereUptoRow : OpenClaim := { program := "ytjlbcaiionmcnaa", sum := "c49e893939a5cd58c08c5489e9b99d1e775df4c9983bf1543ede0453edb27308", func := "shipfitter/shipfitterlaw.PatchThere", spec := "patchThere", unfollowed := true, recurses := true, apart := false, narrowed := true }
def PatchThereUptoSaid : Prop := patchThereUptoRow.holds Try.pinned (OpenSpec.upto patchThereSpec)

end Rows
end Go.Proofs.Ytjlbcaiionmcnaa
