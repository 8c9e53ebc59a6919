/-
  No cell of these rows narrows 'for every input' (looked for: loops, veiled, ifaces, maps, wideKeys, modest, calm, conditions, laid).
  DERIVED. THE GIVEN ROWS OF THIS SEAT. 6 by the template 'for every input the law returns true; each argument reads behind the call as it read before'; 0 by the template 'total and deterministic' (their statements: YtpmjgkngkaleeaaTotals.lean).
  GIVEN WITH THE SEED: the statements are not yours to turn. If you find one false, say at which input.
  Laid BY PROGRAM, IN A SANDBOX (cutbox-rows.mjs): the forced cells as the released guide's own fill.sh prints them over the translation af6eaf47afd840be… (all of the seat's roots in one cut). By AI agents, Wed Nov 11 2026. No macro, syntax, notation, axiom, sorry.
-/
import Derived.Test.YtpmjgkngkaleeaaChecked
import GoSem.Claim
import GoSem.ClaimJoined
import GoSem.ClaimMapViews
import Derived.JoinedTies
import Derived.KernelRfl
namespace Go.Proofs.Ytpmjgkngkaleeaa
/- THE CELL 'sum', in the pinned program and in every row, IS THE sha256 OF THE DUMP (.gsa) THAT YtpmjgkngkaleeaaProg.lean LOADS. Nothing in Lean hashes anything: it is a label: what it is worth is what the hold of that sum in a sandbox is worth. -/
noncomputable def Try.pinned : Pinned := { name := "ytpmjgkngkaleeaa", sum := "af6eaf47afd840beda6a091fe6e913b50996ff119f9a7fa7240c9b91518951be", checked := Try.checked }
namespace Rows
def none {H : Type} : Left H := { results := [], args := [] }

/-- 'shipfitterlaw.FlashErased': WHATEVER THE INPUT: true; the input reads as it did. -/
def flashErasedSpec : ChangeSpec := { name := "flashErased", fn := fun _ => fun
  | [d1, d2, d3, d4] => { results := [.lit (.bool true)], args := [d1, d2, d3, d4] }
  | _ => none }
def flashErasedRow : OpenClaim := { program := "ytpmjgkngkaleeaa", sum := "af6eaf47afd840beda6a091fe6e913b50996ff119f9a7fa7240c9b91518951be", func := "shipfitter/shipfitterlaw.FlashErased", spec := "flashErased", inPlace := ["internal/abi.NoEscape", "internal/bytealg.MakeNoZero"], unfollowed := true, recurses := true, apart := false }
def FlashErasedSaid : Prop := flashErasedRow.holds Try.pinned (OpenSpec.ofChange flashErasedSpec)

/-- ITS FALSE NEIGHBOUR: 'it returns false'. Refute it at one input. -/
def flashErasedWrong : ChangeSpec := { name := "flashErased", fn := fun _ => fun
  | [d1, d2, d3, d4] => { results := [.lit (.bool false)], args := [d1, d2, d3, d4] }
  | _ => none }
def FlashErasedWrongFalsely : Prop := flashErasedRow.holds Try.pinned (OpenSpec.ofChange flashErasedWrong)

/-- 'shipfitterlaw.FlashTells': WHATEVER THE INPUT: true; the input reads as it did. -/
def flashTellsSpec : ChangeSpec := { name := "flashTells", fn := fun _ => fun
  | [d1, d2, d3, d4, d5, d6, d7] => { results := [.lit (.bool true)], args := [d1, d2, d3, d4, d5, d6, d7] }
  | _ => none }
def flashTellsRow : OpenClaim := { program := "ytpmjgkngkaleeaa", sum := "af6eaf47afd840beda6a091fe6e913b50996ff119f9a7fa7240c9b91518951be", func := "shipfitter/shipfitterlaw.FlashTells", spec := "flashTells", inPlace := ["internal/abi.NoEscape", "internal/bytealg.MakeNoZero"], unfollowed := true, recurses := true, apart := false }
def FlashTellsSaid : Prop := flashTellsRow.holds Try.pinned (OpenSpec.ofChange flashTellsSpec)

/-- ITS FALSE NEIGHBOUR: 'it returns false'. Refute it at one input. -/
def flashTellsWrong : ChangeSpec := { name := "flashTells", fn := fun _ => fun
  | [d1, d2, d3, d4, d5, d6, d7] => { results := [.lit (.bool false)], args := [d1, d2, d3, d4, d5, d6, d7] }
  | _ => none }
def FlashTellsWrongFalsely : Prop := flashTellsRow.holds Try.pinned (OpenSpec.ofChange flashTellsWrong)

/-- 'shipfitterlaw.FlashBits': WHATEVER THE INPUT: true; the input reads as it did. -/
def flashBitsSpec : ChangeSpec := { name := "flashBits", fn := fun _ => fun
  | [d1, d2, d3] => { results := [.lit (.bool true)], args := [d1, d2, d3] }
  | _ => none }
def flashBitsRow : OpenClaim := { program := "ytpmjgkngkaleeaa", sum := "af6eaf47afd840beda6a091fe6e913b50996ff119f9a7fa7240c9b91518951be", func := "shipfitter/shipfitterlaw.FlashBits", spec := "flashBits", inPlace := ["internal/abi.NoEscape", "internal/bytealg.MakeNoZero"], unfollowed := true, recurses := true, apart := false }
def FlashBitsSaid : Prop := flashBitsRow.holds Try.pinned (OpenSpec.ofChange flashBitsSpec)

/-- ITS FALSE NEIGHBOUR: 'it returns false'. Refute it at one input. -/
def flashBitsWrong : ChangeSpec := { name := "flashBits", fn := fun _ => fun
  | [d1, d2, d3] => { results := [.lit (.bool false)], args := [d1, d2, d3] }
  | _ => none }
def FlashBitsWrongFalsely : Prop := flashBitsRow.holds Try.pinned (OpenSpec.ofChange flashBitsWrong)

/-- 'shipfitterlaw.JournalTells': WHATEVER THE INPUT: true; the input reads as it did. -/
def journalTellsSpec : ChangeSpec := { name := "journalTells", fn := fun _ => fun
  | [d1, d2] => { results := [.lit (.bool true)], args := [d1, d2] }
  | _ => none }
def journalTellsRow : OpenClaim := { program := "ytpmjgkngkaleeaa", sum := "af6eaf47afd840beda6a091fe6e913b50996ff119f9a7fa7240c9b91518951be", func := "shipfitter/shipfitterlaw.JournalTells", spec := "journalTells", inPlace := ["internal/abi.NoEscape", "internal/bytealg.MakeNoZero"], unfollowed := true, recurses := true, apart := false }
def JournalTellsSaid : Prop := journalTellsRow.holds Try.pinned (OpenSpec.ofChange journalTellsSpec)

/-- ITS FALSE NEIGHBOUR: 'it returns false'. Refute it at one input. -/
def journalTellsWrong : ChangeSpec := { name := "journalTells", fn := fun _ => fun
  | [d1, d2] => { results := [.lit (.bool false)], args := [d1, d2] }
  | _ => none }
def JournalTellsWrongFalsely : Prop := journalTellsRow.holds Try.pinned (OpenSpec.ofChange journalTellsWrong)

/-- 'shipfitterlaw.JournalAll': WHATEVER THE INPUT: true; the input reads as it did. -/
def journalAllSpec : ChangeSpec := { name := "journalAll", fn := fun _ => fun
  | [d] => { results := [.lit (.bool true)], args := [d] }
  | _ => none }
def journalAllRow : OpenClaim := { program := "ytpmjgkngkaleeaa", sum := "af6eaf47afd840beda6a091fe6e913b50996ff119f9a7fa7240c9b91518951be", func := "shipfitter/shipfitterlaw.JournalAll", spec := "journalAll", inPlace := ["internal/abi.NoEscape", "internal/bytealg.MakeNoZero"], unfollowed := true, recurses := true, apart := false }
def JournalAllSaid : Prop := journalAllRow.holds Try.pinned (OpenSpec.ofChange journalAllSpec)

/-- ITS FALSE NEIGHBOUR: 'it returns false'. Refute it at one input. -/
def journalAllWrong : ChangeSpec := { name := "journalAll", fn := fun _ => fun
  | [d] => { results := [.lit (.bool false)], args := [d] }
  | _ => none }
def JournalAllWrongFalsely : Prop := journalAllRow.holds Try.pinned (OpenSpec.ofChange journalAllWrong)

/-- 'shipfitterlaw.JournalOpens': WHATEVER THE INPUT: true; the input reads as it did. -/
def journalOpensSpec : ChangeSpec := { name := "journalOpens", fn := fun _ => fun
  | [d1, d2, d3, d4] => { results := [.lit (.bool true)], args := [d1, d2, d3, d4] }
  | _ => none }
def journalOpensRow : OpenClaim := { program := "ytpmjgkngkaleeaa", sum := "af6eaf47afd840beda6a091fe6e913b50996ff119f9a7fa7240c9b91518951be", func := "shipfitter/shipfitterlaw.JournalOpens", spec := "journalOpens", inPlace := ["internal/abi.NoEscape", "internal/bytealg.MakeNoZero"], unfollowed := true, recurses := true, apart := false }
def JournalOpensSaid : Prop := journalOpensRow.holds Try.pinned (OpenSpec.ofChange journalOpensSpec)

/-- ITS FALSE NEIGHBOUR: 'it returns false'. Refute it at one input. -/
def journalOpensWrong : ChangeSpec := { name := "journalOpens", fn := fun _ => fun
  | [d1, d2, d3, d4] => { results := [.lit (.bool false)], args := [d1, d2, d3, d4] }
  | _ => none }
def JournalOpensWrongFalsely : Prop := journalOpensRow.holds Try.pinned (OpenSpec.ofChange journalOpensWrong)

/- THE SECOND FORM. 'bulk': how many values and letters a reading holds, each counted each time it is reached (what is shared counts as often as it is met; a slice's spare places count too). A statement '..UptoSaid' is the law's where the arguments, and the package variables that the reading takes, are together of bulk at most 1048576: NARROWER than '..Said'. Prove '..Said' where nothing that the law and all that it calls make is longer than what came in: it says more and counts as full. Else prove '..UptoSaid'. A law counts once. -/
mutual
def uptoBulk {H : Type} : DataW H → Nat
  | .lit (.string bytes) => bytes.length + 1
  | .lit _ => 1
  | .nil => 1
  | .ptr d => uptoBulk d + 1
  | .slice elems spare => uptoBulkAll elems + uptoBulkAll spare + 1
  | .agg parts => uptoBulkAll parts + 1
  | .iface _ d => uptoBulk d + 1
  | .map entries => uptoBulkEntries entries + 1
  | .held _ => 1
def uptoBulkAll {H : Type} : List (DataW H) → Nat
  | [] => 0
  | d :: r => uptoBulk d + uptoBulkAll r
def uptoBulkEntries {H : Type} : List (Lit × DataW H) → Nat
  | [] => 0
  | x :: r => uptoBulkEntry x + uptoBulkEntries r
def uptoBulkEntry {H : Type} : Lit × DataW H → Nat
  | (.string bytes, d) => bytes.length + uptoBulk d + 1
  | (_, d) => uptoBulk d + 1
 end
def uptoSmall : (H : Type) → List (DataW H) → Bool := fun _ ds => decide (uptoBulkAll ds ≤ 1048576)
def OpenSpec.upto (s : _root_.Go.ChangeSpec) : _root_.Go.OpenSpec := { _root_.Go.OpenSpec.ofChange s with cond := some uptoSmall }

/-- 'shipfitterlaw.FlashErased', WHERE WHAT IT READS IS OF BULK AT MOST 1048576: true; the input reads as it did. -/
def flashErasedUptoRow : OpenClaim := { program := "ytpmjgkngkaleeaa", sum := "af6eaf47afd840beda6a091fe6e913b50996ff119f9a7fa7240c9b91518951be", func := "shipfitter/shipfitterlaw.FlashErased", spec := "flashErased", inPlace := ["internal/abi.NoEscape", "internal/bytealg.MakeNoZero"], unfollowed := true, recurses := true, apart := false, narrowed := true }
def FlashErasedUptoSaid : Prop := flashErasedUptoRow.holds Try.pinned (OpenSpec.upto flashErasedSpec)

/-- 'shipfitterlaw.FlashTells', WHERE WHAT IT READS IS OF BULK AT MOST 1048576: true; the input reads as it did. -/
def flashTellsUptoRow : OpenClaim := { program := "ytpmjgkngkaleeaa", sum := "af6eaf47afd840beda6a091fe6e913b50996ff119f9a7fa7240c9b91518951be", func := "shipfitter/shipfitterlaw.FlashTells", spec := "flashTells", inPlace := ["internal/abi.NoEscape", "internal/bytealg.MakeNoZero"], unfollowed := true, recurses := true, apart := false, narrowed := true }
def FlashTellsUptoSaid : Prop := flashTellsUptoRow.holds Try.pinned (OpenSpec.upto flashTellsSpec)

/-- 'shipfitterlaw.FlashBits', WHERE WHAT IT READS IS OF BULK AT MOST 1048576: true; the input reads as it did. -/
def flashBitsUptoRow : OpenClaim := { program := "ytpmjgkngkaleeaa", sum := "af6eaf47afd840beda6a091fe6e913b50996ff119f9a7fa7240c9b91518951be", func := "shipfitter/shipfitterlaw.FlashBits", spec := "flashBits", inPlace := ["internal/abi.NoEscape", "internal/bytealg.MakeNoZero"], unfollowed := true, recurses := true, apart := false, narrowed := true }
def FlashBitsUptoSaid : Prop := flashBitsUptoRow.holds Try.pinned (OpenSpec.upto flashBitsSpec)

/-- 'shipfitterlaw.JournalTells', WHERE WHAT IT READS IS OF BULK AT MOST 1048576: true; the input reads as it did. -/
def journalTellsUptoRow : OpenClaim := { program := "ytpmjgkngkaleeaa", sum := "af6eaf47afd840beda6a091fe6e913b50996ff119f9a7fa7240c9b91518951be", func := "shipfitter/shipfitterlaw.JournalTells", spec := "journalTells", inPlace := ["internal/abi.NoEscape", "internal/bytealg.MakeNoZero"], unfollowed := true, recurses := true, apart := false, narrowed := true }
def JournalTellsUptoSaid : Prop := journalTellsUptoRow.holds Try.pinned (OpenSpec.upto journalTellsSpec)

/-- 'shipfitterlaw.JournalAll', WHERE WHAT IT READS IS OF BULK AT MOST 1048576: true; the input reads as it did. -/
def journalAllUptoRow : OpenClaim := { program := "ytpmjgkngkaleeaa", sum := "af6eaf47afd840beda6a091fe6e913b50996ff119f9a7fa7240c9b91518951be", func := "shipfitter/shipfitterlaw.JournalAll", spec := "journalAll", inPlace := ["internal/abi.NoEscape", "internal/bytealg.MakeNoZero"], unfollowed := true, recurses := true, apart := false, narrowed := true }
def JournalAllUptoSaid : Prop := journalAllUptoRow.holds Try.pinned (OpenSpec.upto journalAllSpec)

/-- 'shipfitterlaw.JournalOpens', WHERE WHAT IT READS IS OF BULK AT MOST 1048576: true; the input reads as it did. -/
def journalOpensUptoRow : OpenClaim := { program := "ytpmjgkngkaleeaa", sum := "af6eaf47afd840beda6a091fe6e913b50996ff119f9a7fa7240c9b91518951be", func := "shipfitter/shipfitterlaw.JournalOpens", spec := "journalOpens", inPlace := ["internal/abi.NoEscape", "internal/bytealg.MakeNoZero"], unfollowed := true, recurses := true, apart := false, narrowed := true }
def JournalOpensUptoSaid : Prop := journalOpensUptoRow.holds Try.pinned (OpenSpec.upto journalOpensSpec)

end Rows
end Go.Proofs.Ytpmjgkngkaleeaa
