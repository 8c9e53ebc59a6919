import Derived.Test.YtgkpbndeljnjcaaLits
import Derived.Test.YtgkpbndeljnjcaaAppAny
import Derived.Maps.AppendAt
import Derived.Deep.AppendLies
import Derived.RegionTactic
import Derived.OwnWalk
/- Rows of placed modules of the call's own, and what is appended to them. -/
namespace Go.Proofs.Ytgkpbndeljnjcaa
open Go.RowKit

abbrev zeroPlc : Value := .agg #[.string ⟨#[]⟩, .int .i64 0, .int .i64 0, .string ⟨#[]⟩, .slice none 0 0, .slice none 0 0, .slice none 0 0, .int .i64 0]
theorem Try.infoPlc : (Try.prog.info? 44).map (fun i => (i.zero, i.size, i.bytes)) = some (some zeroPlc, 8, 128) := by kernel_rfl
/-- a slice of placed modules that lies in blocks of the call's own, from block base on -/
def PlcOwn (w : World) (base : Nat) (v : Value) (l : List Plc) : Prop := w.ownsRow base 44 8 v l.length (l.flatMap Plc.cells)
theorem plc_one (l : List Plc) : ∀ u ∈ l.flatMap Plc.cells, u.oneCell' = true := by
  intro u hu
  obtain ⟨x, _, hx⟩ := List.mem_flatMap.1 hu
  simp only [Plc.cells, Mod.cells, List.mem_append, List.mem_cons, List.not_mem_nil, or_false] at hx
  rcases hx with (rfl | rfl | rfl | rfl | rfl | rfl | rfl) | rfl <;> rfl
theorem PlcOwn.row {w : World} {base : Nat} {v : Value} {l : List Plc} (h : PlcOwn w base v l) : ∃ (A : Option Addr) (c : Nat), v = .slice A l.length c ∧ Row Plc.cells 8 w A l := by
  obtain ⟨A, c, rfl⟩ := own_slice h
  exact ⟨A, c, rfl, Reads.of_own h⟩
theorem PlcOwn.row1 {w : World} {base : Nat} {v : Value} {l : List Plc} {x : Plc} (h : PlcOwn w base v (l ++ [x])) : ∃ (A : Option Addr) (c : Nat), v = .slice A (l.length + 1) c ∧ Row Plc.cells 8 w A (l ++ [x]) := by
  obtain ⟨A, c, e, hr⟩ := h.row
  exact ⟨A, c, by simpa using e, hr⟩
theorem step_plcs (W : World) {ops : Array Oper} {o : Oper} {a : Act} {K : Act → World → Prop} {Q : Exit → Act → World → Prop} {E : Prop} (hgd : o.guard = none) (s x : Operand)
    (ho : o.op = .call { callee := .builtin .append, args := #[s, x], argTypes := #[22, 22] }) (base : Nat) (v : Value) (l0 : List Plc) (hs : a.eval s = v) (hown : PlcOwn W base v l0)
    (A : Option Addr) (c : Nat) (l1 : List Plc) (hx : a.eval x = .slice A l1.length c) (hr : Row Plc.cells 8 W A l1) (hlen : l0.length + l1.length ≤ 1000000) (hbase : base ≤ W.heap.size)
    (h : ∀ v' w', PlcOwn w' base v' (l0 ++ l1) → Below base W w' → W.grownBy w' v.ownBlock → K (a.put o.dst v') w') : if Region.wanted o (yielded ops a.tmps) = true then Oper.wp Try.prog o a W K Q else E := by
  obtain ⟨i0, hi, hz0, hz1, hz2⟩ := info_parts Try.infoPlc
  refine step_append_any W hgd s x 22 ho base 44 i0 zeroPlc 8 128 Try.underlying22 hi hz0 hz1 hz2 rfl (by decide) v l0.length (l0.flatMap Plc.cells) hs hown W.heap.size A l1.length c (l1.flatMap Plc.cells) hx hr
    (plc_one l1) (by simp only [maxLen]; omega) (by omega) hbase ?_
  intro v' w' h1 h2 _
  refine h v' w' ?_ ((Below.refl base W).grown h2 hbase (own_base hown)) h2
  unfold PlcOwn
  simpa using h1
theorem wp_plcs (W : World) {o : Oper} {a : Act} {K : Act → World → Prop} {Q : Exit → Act → World → Prop} (s x : Operand)
    (ho : o.op = .call { callee := .builtin .append, args := #[s, x], argTypes := #[22, 22] }) (base : Nat) (v : Value) (l0 : List Plc) (hs : a.eval s = v) (hown : PlcOwn W base v l0)
    (A : Option Addr) (c : Nat) (l1 : List Plc) (hx : a.eval x = .slice A l1.length c) (hr : Row Plc.cells 8 W A l1) (hlen : l0.length + l1.length ≤ 1000000) (hbase : base ≤ W.heap.size)
    (h : ∀ v' w', PlcOwn w' base v' (l0 ++ l1) → Below base W w' → W.grownBy w' v.ownBlock → K (a.put o.dst v') w') : Oper.wp Try.prog o a W K Q := by
  obtain ⟨i0, hi, hz0, hz1, hz2⟩ := info_parts Try.infoPlc
  refine wp_append_any W s x 22 ho base 44 i0 zeroPlc 8 128 Try.underlying22 hi hz0 hz1 hz2 rfl (by decide) v l0.length (l0.flatMap Plc.cells) hs hown W.heap.size A l1.length c (l1.flatMap Plc.cells) hx hr
    (plc_one l1) (by simp only [maxLen]; omega) (by omega) hbase ?_
  intro v' w' h1 h2 _
  refine h v' w' ?_ ((Below.refl base W).grown h2 hbase (own_base hown)) h2
  unfold PlcOwn
  simpa using h1
theorem PlcOwn.alloc {w : World} {base : Nat} {v : Value} {l : List Plc} (h : PlcOwn w base v l) (o : Obj) : PlcOwn (w.alloc o) base v l := World.ownsRow.alloc h o
theorem PlcOwn.drew {w : World} {base : Nat} {v : Value} {l : List Plc} (h : PlcOwn w base v l) : PlcOwn w.drew base v l := h
theorem PlcOwn.empty (w : World) (base : Nat) (hb : base ≤ w.heap.size) : PlcOwn (w.alloc (.cells #[] 44)) base (.slice (some ⟨w.heap.size, 0, none⟩) 0 0) [] := World.ownsRow_made w #[] 0 hb (Nat.zero_le _) rfl

end Go.Proofs.Ytgkpbndeljnjcaa
