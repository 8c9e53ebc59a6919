import Derived.Test.YtdpacbdejfjkcaaLits
import Derived.Maps.AppendAt
import Derived.Deep.AppendLies
import Derived.RegionTactic
import Derived.OwnWalk
/- Rows of placed modules of the call's own, and what is appended to them. -/
namespace Go.Proofs.Ytdpacbdejfjkcaa
open Go.RowKit

section
variable {P : Program} (w : World)
theorem run_append_of_nil (base : Nat) (t ty e : TypeId) (i : TypeInfo) (size : Nat) (ht : P.underlying t = some (.slice e)) (hi : P.info? e = some i)
    (v : Value) (n : Nat) (xs : List Value) (hown : w.ownsRow base e size v n xs) (c : Nat) : (Builtin.append_ #[t, t] ty #[v, .slice none 0 c]).run P w = .ok v w := by
  rcases hown.2 with ⟨rfl, rfl⟩ | ⟨g, cap, cur, rfl, _, _, hnc, _⟩
  · simp [Builtin.append_, run_underlying ht, sizeOf, typeInfo, hi, Builtin.lenOf, Builtin.firstCells]
  · simp [Builtin.append_, run_underlying ht, sizeOf, typeInfo, hi, Builtin.lenOf, Builtin.firstCells, hnc, storeCells]

theorem run_append_any (base : Nat) (t ty e : TypeId) (i : TypeInfo) (z : Value) (size bytes : Nat) (ht : P.underlying t = some (.slice e)) (hi : P.info? e = some i) (hz : i.zero = some z)
    (hsize : i.size = size) (hby : i.bytes = bytes) (hzs : z.cells.size = size) (hsz : 0 < size)
    (v : Value) (n : Nat) (xs : List Value) (hown : w.ownsRow base e size v n xs)
    (B : Nat) (A : Option Addr) (m c : Nat) (news : List Value) (hr : Reads w B size A m news) (h1 : ∀ u ∈ news, u.oneCell' = true)
    (h63 : n + m ≤ maxLen) (hbytes : (n + m) * bytes ≤ 140737488355328) (hbase : base ≤ w.heap.size) :
    ∃ v' w', (Builtin.append_ #[t, t] ty #[v, .slice A m c]).run P w = .ok v' w' ∧ w'.ownsRow base e size v' (n + m) (xs ++ news) ∧ w.grownBy w' v.ownBlock ∧
      (v'.ownBlock = v.ownBlock ∨ v'.ownBlock = some w.heap.size) := by
  rcases A with _ | ad
  · have hm : m = 0 := by
      rcases Nat.eq_zero_or_pos m with h0 | h0
      · exact h0
      · obtain ⟨ad, h, _⟩ := hr.2 h0
        cases h
    subst hm
    have hn : news = [] := List.eq_nil_of_length_eq_zero (by simpa using hr.1)
    subst hn
    exact ⟨v, w, run_append_of_nil w base t ty e i size ht hi v n xs hown c, by simpa using hown, World.grownBy.refl w _, .inl rfl⟩
  · have hcells : ∀ j u, news[j]? = some u → w.cell? (ad.add j) = some u := by
      intro j u hu
      rcases Nat.eq_zero_or_pos m with h0 | h0
      · subst h0
        have hn : news = [] := List.eq_nil_of_length_eq_zero (by simpa using hr.1)
        subst hn
        simp at hu
      · obtain ⟨ad', h, _, hc⟩ := hr.2 h0
        injection h with h
        subst h
        exact hc j u hu
    obtain ⟨v', w', hrun, h2, h3, _, h5⟩ := run_append_own_at (P := P) w base t ty e i z size bytes ht hi hz hsize hby hzs hsz v n xs hown ad m c news hr.1 hcells h1 h63 hbytes hbase
    exact ⟨v', w', hrun, h2, h3, h5⟩

theorem wp_append_any {o : Oper} {a : Act} {K : Act → World → Prop} {Q : Exit → Act → World → Prop} (s x : Operand) (t : TypeId)
    (ho : o.op = .call { callee := .builtin .append, args := #[s, x], argTypes := #[t, t] })
    (base : Nat) (e : TypeId) (i : TypeInfo) (z : Value) (size bytes : Nat) (ht : P.underlying t = some (.slice e)) (hi : P.info? e = some i) (hz : i.zero = some z)
    (hsize : i.size = size) (hby : i.bytes = bytes) (hzs : z.cells.size = size) (hsz : 0 < size)
    (v : Value) (n : Nat) (xs : List Value) (hs : a.eval s = v) (hown : w.ownsRow base e size v n xs)
    (B : Nat) (A : Option Addr) (m c : Nat) (news : List Value) (hx : a.eval x = .slice A m c) (hr : Reads w B size A m news) (h1 : ∀ u ∈ news, u.oneCell' = true)
    (h63 : n + m ≤ maxLen) (hbytes : (n + m) * bytes ≤ 140737488355328) (hbase : base ≤ w.heap.size)
    (h : ∀ v' w', w'.ownsRow base e size v' (n + m) (xs ++ news) → w.grownBy w' v.ownBlock → (v'.ownBlock = v.ownBlock ∨ v'.ownBlock = some w.heap.size) → K (a.put o.dst v') w') : o.wp P a w K Q := by
  obtain ⟨v', w', hrun, h2, h3, h4⟩ := run_append_any (P := P) w base t o.type e i z size bytes ht hi hz hsize hby hzs hsz v n xs hown B A m c news hr h1 h63 hbytes hbase
  unfold Oper.wp execOp
  simp only [ho, resolve, invoke, builtin, Sem.run_bind, Sem.run_pure, Result.andThen_ok, List.map_toArray, List.map_cons, List.map_nil, hs, hx, hrun]
  exact h v' w' h2 h3 h4

theorem step_append_any {ops : Array Oper} {o : Oper} {a : Act} {K : Act → World → Prop} {Q : Exit → Act → World → Prop} {E : Prop} (hgd : o.guard = none) (s x : Operand) (t : TypeId)
    (ho : o.op = .call { callee := .builtin .append, args := #[s, x], argTypes := #[t, t] })
    (base : Nat) (e : TypeId) (i : TypeInfo) (z : Value) (size bytes : Nat) (ht : P.underlying t = some (.slice e)) (hi : P.info? e = some i) (hz : i.zero = some z)
    (hsize : i.size = size) (hby : i.bytes = bytes) (hzs : z.cells.size = size) (hsz : 0 < size)
    (v : Value) (n : Nat) (xs : List Value) (hs : a.eval s = v) (hown : w.ownsRow base e size v n xs)
    (B : Nat) (A : Option Addr) (m c : Nat) (news : List Value) (hx : a.eval x = .slice A m c) (hr : Reads w B size A m news) (h1 : ∀ u ∈ news, u.oneCell' = true)
    (h63 : n + m ≤ maxLen) (hbytes : (n + m) * bytes ≤ 140737488355328) (hbase : base ≤ w.heap.size)
    (h : ∀ v' w', w'.ownsRow base e size v' (n + m) (xs ++ news) → w.grownBy w' v.ownBlock → (v'.ownBlock = v.ownBlock ∨ v'.ownBlock = some w.heap.size) → K (a.put o.dst v') w') :
    if Region.wanted o (yielded ops a.tmps) = true then Oper.wp P o a w K Q else E := by
  have hw : Region.wanted o (yielded ops a.tmps) = true := by simp [Region.wanted, hgd]
  rw [if_pos hw]
  exact wp_append_any w s x t ho base e i z size bytes ht hi hz hsize hby hzs hsz v n xs hs hown B A m c news hx hr h1 h63 hbytes hbase h
end

abbrev zeroPlc : Value := .agg #[.string ⟨#[]⟩, .int .i64 0, .int .i64 0, .string ⟨#[]⟩, .slice none 0 0, .slice none 0 0, .slice none 0 0, .int .i64 0]
theorem Try.infoPlc : (Try.prog.info? 46).map (fun i => (i.zero, i.size, i.bytes)) = some (some zeroPlc, 8, 128) := by kernel_rfl
/-- a slice of placed modules that lies in blocks of the call's own, from block base on -/
def PlcOwn (w : World) (base : Nat) (v : Value) (l : List Plc) : Prop := w.ownsRow base 46 8 v l.length (l.flatMap Plc.cells)
theorem plc_one (l : List Plc) : ∀ u ∈ l.flatMap Plc.cells, u.oneCell' = true := by
  intro u hu
  obtain ⟨x, _, hx⟩ := List.mem_flatMap.1 hu
  simp only [Plc.cells, Mod.cells, List.mem_append, List.mem_cons, List.not_mem_nil, or_false] at hx
  rcases hx with (rfl | rfl | rfl | rfl | rfl | rfl | rfl) | rfl <;> rfl
theorem PlcOwn.row {w : World} {base : Nat} {v : Value} {l : List Plc} (h : PlcOwn w base v l) : ∃ (A : Option Addr) (c : Nat), v = .slice A l.length c ∧ Row Plc.cells 8 w A l := by
  obtain ⟨A, c, rfl⟩ := own_slice h
  exact ⟨A, c, rfl, Reads.of_own h⟩
theorem PlcOwn.row1 {w : World} {base : Nat} {v : Value} {l : List Plc} {x : Plc} (h : PlcOwn w base v (l ++ [x])) : ∃ (A : Option Addr) (c : Nat), v = .slice A (l.length + 1) c ∧ Row Plc.cells 8 w A (l ++ [x]) := by
  obtain ⟨A, c, e, hr⟩ := h.row
  exact ⟨A, c, by simpa using e, hr⟩
theorem step_plcs (W : World) {ops : Array Oper} {o : Oper} {a : Act} {K : Act → World → Prop} {Q : Exit → Act → World → Prop} {E : Prop} (hgd : o.guard = none) (s x : Operand)
    (ho : o.op = .call { callee := .builtin .append, args := #[s, x], argTypes := #[27, 27] }) (base : Nat) (v : Value) (l0 : List Plc) (hs : a.eval s = v) (hown : PlcOwn W base v l0)
    (A : Option Addr) (c : Nat) (l1 : List Plc) (hx : a.eval x = .slice A l1.length c) (hr : Row Plc.cells 8 W A l1) (hlen : l0.length + l1.length ≤ 1000000) (hbase : base ≤ W.heap.size)
    (h : ∀ v' w', PlcOwn w' base v' (l0 ++ l1) → Below base W w' → W.grownBy w' v.ownBlock → K (a.put o.dst v') w') : if Region.wanted o (yielded ops a.tmps) = true then Oper.wp Try.prog o a W K Q else E := by
  obtain ⟨i0, hi, hz0, hz1, hz2⟩ := info_parts Try.infoPlc
  refine step_append_any W hgd s x 27 ho base 46 i0 zeroPlc 8 128 Try.underlying27 hi hz0 hz1 hz2 rfl (by decide) v l0.length (l0.flatMap Plc.cells) hs hown W.heap.size A l1.length c (l1.flatMap Plc.cells) hx hr
    (plc_one l1) (by simp only [maxLen]; omega) (by omega) hbase ?_
  intro v' w' h1 h2 _
  refine h v' w' ?_ ((Below.refl base W).grown h2 hbase (own_base hown)) h2
  unfold PlcOwn
  simpa using h1
theorem wp_plcs (W : World) {o : Oper} {a : Act} {K : Act → World → Prop} {Q : Exit → Act → World → Prop} (s x : Operand)
    (ho : o.op = .call { callee := .builtin .append, args := #[s, x], argTypes := #[27, 27] }) (base : Nat) (v : Value) (l0 : List Plc) (hs : a.eval s = v) (hown : PlcOwn W base v l0)
    (A : Option Addr) (c : Nat) (l1 : List Plc) (hx : a.eval x = .slice A l1.length c) (hr : Row Plc.cells 8 W A l1) (hlen : l0.length + l1.length ≤ 1000000) (hbase : base ≤ W.heap.size)
    (h : ∀ v' w', PlcOwn w' base v' (l0 ++ l1) → Below base W w' → W.grownBy w' v.ownBlock → K (a.put o.dst v') w') : Oper.wp Try.prog o a W K Q := by
  obtain ⟨i0, hi, hz0, hz1, hz2⟩ := info_parts Try.infoPlc
  refine wp_append_any W s x 27 ho base 46 i0 zeroPlc 8 128 Try.underlying27 hi hz0 hz1 hz2 rfl (by decide) v l0.length (l0.flatMap Plc.cells) hs hown W.heap.size A l1.length c (l1.flatMap Plc.cells) hx hr
    (plc_one l1) (by simp only [maxLen]; omega) (by omega) hbase ?_
  intro v' w' h1 h2 _
  refine h v' w' ?_ ((Below.refl base W).grown h2 hbase (own_base hown)) h2
  unfold PlcOwn
  simpa using h1
theorem PlcOwn.alloc {w : World} {base : Nat} {v : Value} {l : List Plc} (h : PlcOwn w base v l) (o : Obj) : PlcOwn (w.alloc o) base v l := World.ownsRow.alloc h o
theorem PlcOwn.drew {w : World} {base : Nat} {v : Value} {l : List Plc} (h : PlcOwn w base v l) : PlcOwn w.drew base v l := h
theorem PlcOwn.empty (w : World) (base : Nat) (hb : base ≤ w.heap.size) : PlcOwn (w.alloc (.cells #[] 46)) base (.slice (some ⟨w.heap.size, 0, none⟩) 0 0) [] := World.ownsRow_made w #[] 0 hb (Nat.zero_le _) rfl

end Go.Proofs.Ytdpacbdejfjkcaa
