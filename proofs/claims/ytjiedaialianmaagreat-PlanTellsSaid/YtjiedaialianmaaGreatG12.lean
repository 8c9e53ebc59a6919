import Derived.Test.YtjiedaialianmaaGreatG06
import Derived.Test.YtjiedaialianmaaGreatG05
import Derived.Maps.AppendAt
import Derived.Deep.AppendLies
import Derived.RegionTactic
import Derived.OwnWalk
import Derived.Test.YtjiedaialianmaaGreatG10
import Derived.Deep.RegionLaw
section

namespace Go.Proofs.YtjiedaialianmaaGreat
open Go.RowKit

abbrev zeroPlc : Value := .agg #[.string ⟨#[]⟩, .int .i64 0, .int .i64 0, .string ⟨#[]⟩, .slice none 0 0, .slice none 0 0, .slice none 0 0, .int .i64 0]
theorem Tryz.infoPlc : (Tryz.prog.info? 83).map (fun i => (i.zero, i.size, i.bytes)) = some (some zeroPlc, 8, 128) := by kernel_rfl
/-- a slice of placed modules that lies in blocks of the call's own, from block base on -/
def PlcOwn (w : World) (base : Nat) (v : Value) (l : List Plc) : Prop := w.ownsRow base 83 8 v l.length (l.flatMap Plc.cells)
theorem plc_one (l : List Plc) : ∀ u ∈ l.flatMap Plc.cells, u.oneCell' = true := by
  intro u hu
  obtain ⟨x, _, hx⟩ := List.mem_flatMap.1 hu
  simp only [Plc.cells, Mod.cells, List.mem_append, List.mem_cons, List.not_mem_nil, or_false] at hx
  rcases hx with (rfl | rfl | rfl | rfl | rfl | rfl | rfl) | rfl <;> rfl
theorem PlcOwn.row {w : World} {base : Nat} {v : Value} {l : List Plc} (h : PlcOwn w base v l) : ∃ (A : Option Addr) (c : Nat), v = .slice A l.length c ∧ Row Plc.cells 8 w A l := by
  obtain ⟨A, c, rfl⟩ := own_slice h
  exact ⟨A, c, rfl, Reads.of_own h⟩
theorem step_plcs (W : World) {ops : Array Oper} {o : Oper} {a : Act} {K : Act → World → Prop} {Q : Exit → Act → World → Prop} {E : Prop} (hgd : o.guard = none) (s x : Operand)
    (ho : o.op = .call { callee := .builtin .append, args := #[s, x], argTypes := #[37, 37] }) (base : Nat) (v : Value) (l0 : List Plc) (hs : a.eval s = v) (hown : PlcOwn W base v l0)
    (A : Option Addr) (c : Nat) (l1 : List Plc) (hx : a.eval x = .slice A l1.length c) (hr : Row Plc.cells 8 W A l1) (hlen : l0.length + l1.length ≤ 1000000) (hbase : base ≤ W.heap.size)
    (h : ∀ v' w', PlcOwn w' base v' (l0 ++ l1) → Below base W w' → W.grownBy w' v.ownBlock → K (a.put o.dst v') w') : if Region.wanted o (yielded ops a.tmps) = true then Oper.wp Tryz.prog o a W K Q else E := by
  obtain ⟨i0, hi, hz0, hz1, hz2⟩ := info_parts Tryz.infoPlc
  refine step_append_any W hgd s x 37 ho base 83 i0 zeroPlc 8 128 Tryz.underlying37 hi hz0 hz1 hz2 rfl (by decide) v l0.length (l0.flatMap Plc.cells) hs hown W.heap.size A l1.length c (l1.flatMap Plc.cells) hx hr
    (plc_one l1) (by simp only [maxLen]; omega) (by omega) hbase ?_
  intro v' w' h1 h2 _
  refine h v' w' ?_ ((Below.refl base W).grown h2 hbase (own_base hown)) h2
  unfold PlcOwn
  simpa using h1
theorem wp_plcs (W : World) {o : Oper} {a : Act} {K : Act → World → Prop} {Q : Exit → Act → World → Prop} (s x : Operand)
    (ho : o.op = .call { callee := .builtin .append, args := #[s, x], argTypes := #[37, 37] }) (base : Nat) (v : Value) (l0 : List Plc) (hs : a.eval s = v) (hown : PlcOwn W base v l0)
    (A : Option Addr) (c : Nat) (l1 : List Plc) (hx : a.eval x = .slice A l1.length c) (hr : Row Plc.cells 8 W A l1) (hlen : l0.length + l1.length ≤ 1000000) (hbase : base ≤ W.heap.size)
    (h : ∀ v' w', PlcOwn w' base v' (l0 ++ l1) → Below base W w' → W.grownBy w' v.ownBlock → K (a.put o.dst v') w') : Oper.wp Tryz.prog o a W K Q := by
  obtain ⟨i0, hi, hz0, hz1, hz2⟩ := info_parts Tryz.infoPlc
  refine wp_append_any W s x 37 ho base 83 i0 zeroPlc 8 128 Tryz.underlying37 hi hz0 hz1 hz2 rfl (by decide) v l0.length (l0.flatMap Plc.cells) hs hown W.heap.size A l1.length c (l1.flatMap Plc.cells) hx hr
    (plc_one l1) (by simp only [maxLen]; omega) (by omega) hbase ?_
  intro v' w' h1 h2 _
  refine h v' w' ?_ ((Below.refl base W).grown h2 hbase (own_base hown)) h2
  unfold PlcOwn
  simpa using h1
theorem PlcOwn.alloc {w : World} {base : Nat} {v : Value} {l : List Plc} (h : PlcOwn w base v l) (o : Obj) : PlcOwn (w.alloc o) base v l := World.ownsRow.alloc h o
theorem PlcOwn.drew {w : World} {base : Nat} {v : Value} {l : List Plc} (h : PlcOwn w base v l) : PlcOwn w.drew base v l := h
theorem PlcOwn.empty (w : World) (base : Nat) (hb : base ≤ w.heap.size) : PlcOwn (w.alloc (.cells #[] 83)) base (.slice (some ⟨w.heap.size, 0, none⟩) 0 0) [] := World.ownsRow_made w #[] 0 hb (Nat.zero_le _) rfl

end Go.Proofs.YtjiedaialianmaaGreat
end

section

namespace Go.Proofs.YtjiedaialianmaaGreat
open Go.RowKit Go.Lib

theorem Tryz.sizeReg : (Tryz.prog.info? 39).map (·.size) = some 4 := by kernel_rfl
theorem sameC_bare {a b : Mod} (h : SameC a b) : a.bare = b.bare := by
  obtain ⟨nm, mj, mn, t, ex, im, pa, eA, eC, iA, iC, pA, pC⟩ := a
  obtain ⟨nm', mj', mn', t', ex', im', pa', eA', eC', iA', iC', pA', pC'⟩ := b
  obtain ⟨h1, h2, h3, h4, h5, h6, h7⟩ := h
  simp only at h1 h2 h3 h4 h5 h6 h7
  subst h1 h2 h3 h4 h5 h6 h7
  rfl
theorem bare_sameC {a b : Mod} (h : a.bare = b.bare) : SameC a b := by
  unfold Mod.bare at h
  injection h with h1 h2 h3 h4 h5 h6 h7
  exact ⟨h1, h2, h3, h4, h5, h6, h7⟩
/-- placed modules whose rows all lie in blocks of the call's own -/
structure PlsOwn (W : World) (base : Nat) (v : Value) (l : List Plc) : Prop where
  row : PlcOwn W base v l
  each : ∀ x ∈ l, x.m.own W base
/-- a registry of the call's own that tells the same -/
structure RgOwn (W : World) (base : Nat) (k : Krn) (A : Option Addr) (l : List Plc) (c : Nat) : Prop where
  ex : ExpOwn W base (.slice k.eA k.ex.length k.eC) k.ex
  mods : PlsOwn W base (.slice A l.length c) l
theorem PlsOwn.kp {ts : List TypeId} {W W' : World} {base : Nat} {v : Value} {l : List Plc} (h : PlsOwn W base v l) (hk : Kp ts W W') (h0 : 83 ∉ ts) (h1 : 159 ∉ ts) (h2 : 173 ∉ ts) (h3 : 180 ∉ ts) : PlsOwn W' base v l :=
  ⟨own_kp h.row hk h0, fun x hx => (h.each x hx).kp hk h1 h2 h3⟩
theorem PlsOwn.below {W W' : World} {base : Nat} {v : Value} {l : List Plc} (h : PlsOwn W base v l) (hb : Below W.heap.size W W') : PlsOwn W' base v l := ⟨ownM_below h.row hb, fun x hx => (h.each x hx).below hb⟩
theorem PlsOwn.le {W : World} {base base' : Nat} {v : Value} {l : List Plc} (h : PlsOwn W base v l) (hb : base' ≤ base) : PlsOwn W base' v l := ⟨ownM_le h.row hb, fun x hx => (h.each x hx).le hb⟩
theorem RgOwn.below {W W' : World} {base : Nat} {k : Krn} {A : Option Addr} {l : List Plc} {c : Nat} (h : RgOwn W base k A l c) (hb : Below W.heap.size W W') : RgOwn W' base k A l c := ⟨ownM_below h.ex hb, h.mods.below hb⟩
theorem RgOwn.kp {ts : List TypeId} {W W' : World} {base : Nat} {k : Krn} {A : Option Addr} {l : List Plc} {c : Nat} (h : RgOwn W base k A l c) (hk : Kp ts W W') (h0 : 83 ∉ ts) (h1 : 159 ∉ ts) (h2 : 173 ∉ ts) (h3 : 180 ∉ ts) : RgOwn W' base k A l c := ⟨own_kp h.ex hk h1, h.mods.kp hk h0 h1 h2 h3⟩
theorem PlsOwn.ok {W W' : World} {base : Nat} {A A' : Option Addr} {c n : Nat} {l l' : List Plc} (h : PlsOwn W base (.slice A n c) l) (hn : n = l.length) (hs : l.map (fun x => x.m.bare) = l'.map (fun x => x.m.bare)) (hk : PlsOk W' A' l') : PlsOk W A l := by
  subst hn
  have hlen : l.length = l'.length := by have := congrArg List.length hs; simpa using this
  refine ⟨Reads.of_own h.row, by rw [hlen]; exact hk.len, fun x hx => ?_⟩
  obtain ⟨i, hi, rfl⟩ := List.getElem_of_mem hx
  have e : (l.map (fun x => x.m.bare))[i]'(by simpa using hi) = (l'.map (fun x => x.m.bare))[i]'(by simp; omega) := by simp only [hs]
  simp only [List.getElem_map] at e
  exact (h.each _ hx).ok (bare_sameC e) (hk.each _ (List.getElem_mem _))
theorem RgOwn.okK {W W' : World} {base : Nat} {k k' : Krn} {A : Option Addr} {l : List Plc} {c : Nat} (h : RgOwn W base k A l c) (hs : k.bare = k'.bare) (hk : k'.ok W') : k.ok W := by
  unfold Krn.bare at hs
  injection hs with h1 h2 h3
  exact ⟨⟨Reads.of_own h.ex, by rw [h3]; exact hk.ex.2.1, by rw [h3]; exact hk.ex.2.2⟩⟩

theorem Kp.of_below {ts : List TypeId} {W W' : World} (hb : Below W.heap.size W W') : Kp ts W W' := fun i _ _ _ hi _ => (hb.block i (Array.getElem?_eq_some_iff.1 hi).1).trans hi
/-- what the copying loop keeps -/
structure CopyInv (w : World) (k : Krn) (b3 j : Nat) (l : List Plc) (W : World) (vE v : Value) (l' : List Plc) : Prop where
  heap : W.heap[b3]? = some (.cells #[.int .i64 k.major, .int .i64 k.minor, vE, v] 39 (0, 0))
  ex : ExpOwn W w.heap.size vE k.ex
  row : PlcOwn W (b3 + 1) v l'
  each : ∀ x ∈ l', x.m.own W w.heap.size
  like : bares l' = bares (l.take j)
  bel : Below w.heap.size w W
  res : W.heap[w.heap.size + 1]? = some (.cells #[.int .i64 0, .int .i64 0, .slice none 0 0, .slice none 0 0] 39 (0, 0))

theorem copy_a {w4 w5 : World} {b3 : Nat} {v0 v1 v2 v : Value} {t : TypeId} (h4 : w4.heap[b3]? = some (.cells #[v0, v1, v2, v] t (0, 0))) (hb5 : Below w4.drew.heap.size w4.drew w5) :
    b3 < w5.heap.size ∧ w5.cell? ⟨b3, 3, none⟩ = some v ∧ (∀ o, (w5.alloc o).cell? ⟨b3, 3, none⟩ = some v) ∧ Hid (∀ o, (w5.alloc o).heap[b3]? = some (.cells #[v0, v1, v2, v] t (0, 0))) := by
  have hl4 : b3 < w4.drew.heap.size := (Array.getElem?_eq_some_iff.1 h4).1
  have h5 : w5.heap[b3]? = some (.cells #[v0, v1, v2, v] t (0, 0)) := (hb5.block b3 hl4).trans h4
  have hl5 := (Array.getElem?_eq_some_iff.1 h5).1
  have h6 : ∀ o, (w5.alloc o).heap[b3]? = some (.cells #[v0, v1, v2, v] t (0, 0)) := fun o => (heap_alloc_old w5 o hl5).trans h5
  exact ⟨hl5, heap_cell h5 3, fun o => heap_cell (h6 o) 3, Lib.hid h6⟩
/-- the facts behind the call of Own -/
theorem copy_b {w : World} {k : Krn} {b3 j : Nat} {l : List Plc} {wr w4 w5 : World} {vE v : Value} {l' : List Plc} (HI : CopyInv w k b3 j l wr vE v l') (hb4 : Below wr.heap.size wr w4) (hb5 : Below w4.drew.heap.size w4.drew w5) (hl5 : b3 < w5.heap.size) (m' : Mod) (z : Int) :
    Hid (Kp [83, 39] wr w5) ∧ Hid (∀ o, PlcOwn (w5.alloc o) (b3 + 1) v l') ∧
    Hid (Row Plc.cells 8 (w5.alloc (.cells #[.string m'.name, .int .i64 m'.major, .int .i64 m'.minor, .string m'.text, .slice m'.eA m'.ex.length m'.eC, .slice m'.iA m'.im.length m'.iC, .slice m'.pA m'.pa.length m'.pC, .int .i64 z] 83)) (some ⟨w5.heap.size, 0, none⟩) [⟨m', z⟩]) ∧
    Hid (∀ o, b3 + 1 ≤ (w5.alloc o).heap.size) ∧ Hid (w5.heap[w.heap.size + 1]? = some (.cells #[.int .i64 0, .int .i64 0, .slice none 0 0, .slice none 0 0] 39 (0, 0))) := by
  have k1 : Kp [83, 39] wr w4 := Kp.of_below hb4
  have k2 : Kp [83, 39] w4.drew w5 := Kp.of_below hb5
  have r4 : PlcOwn w4 (b3 + 1) v l' := ownM_below HI.row hb4
  have r5 : PlcOwn w5 (b3 + 1) v l' := ownM_below (w := w4.drew) r4 hb5
  have hr4 := (hb4.block (w.heap.size + 1) (Array.getElem?_eq_some_iff.1 HI.res).1).trans HI.res
  have hr5 := (hb5.block (w.heap.size + 1) (Array.getElem?_eq_some_iff.1 hr4).1).trans hr4
  exact ⟨Lib.hid (Kp.trans k1 k2), Lib.hid fun o => World.ownsRow.alloc r5 o, Lib.hid (row_block (enc := Plc.cells) (k := 8) (fun _ => rfl) (heap_alloc_new w5 _) rfl), Lib.hid fun o => Nat.le_trans hl5 (((Below.refl w5.heap.size w5).alloc (Nat.le_refl _) o).size), Lib.hid hr5⟩

/-- a round of the copying loop -/
theorem copy_c {w : World} {k : Krn} {b3 j : Nat} {l : List Plc} {wr w4 w5 w6 : World} {vE v : Value} {l' : List Plc} {m' : Mod} {y : Plc} {A6 : Option Addr} {c6 : Nat} {o : Obj} (HI : CopyInv w k b3 j l wr vE v l') (hb3 : w.heap.size + 3 ≤ b3) (hb5 : Below w.heap.size w w5) (HK5 : Kp [83, 39] wr w5)
    (hOA : ∀ o, PlcOwn (w5.alloc o) (b3 + 1) v l') (hl5 : b3 + 1 ≤ (w5.alloc o).heap.size) (hR5 : w5.heap[w.heap.size + 1]? = some (.cells #[.int .i64 0, .int .i64 0, .slice none 0 0, .slice none 0 0] 39 (0, 0)))
    (h6 : w6.heap[b3]? = some (.cells #[.int .i64 k.major, .int .i64 k.minor, vE, v] 39 (0, 0))) (h6o' : PlcOwn w6 (b3 + 1) (.slice A6 (l' ++ [(⟨m', y.first⟩ : Plc)]).length c6) (l' ++ [⟨m', y.first⟩])) (hg6 : (w5.alloc o).grownBy w6 v.ownBlock) (hb6 : Below (b3 + 1) (w5.alloc o) w6)
    (hs5 : SameC m' y.m) (ho5 : m'.own w5 w4.drew.heap.size) (hw4 : w.heap.size ≤ w4.drew.heap.size) (htk : bares (l.take (j + 1)) = bares (l.take j) ++ [y.bare]) :
    CopyInv w k b3 (j + 1) l (w6.setCell ⟨b3, 3, none⟩ (.slice A6 (l'.length + 1) c6)) vE (.slice A6 (l'.length + 1) c6) (l' ++ [⟨m', y.first⟩]) := by
  have h6o : PlcOwn w6 (b3 + 1) (.slice A6 (l'.length + 1) c6) (l' ++ [⟨m', y.first⟩]) := by rw [List.length_append, List.length_singleton] at h6o'; exact h6o'
  have _ := hl5
  have k0 : Kp [83, 39] w5 (w5.alloc o) := Kp.of_below ((Below.refl _ _).alloc (Nat.le_refl _) o)
  have k1 : Kp [83, 39] (w5.alloc o) w6 := Kp.grown hg6 fun g hg => by
    obtain ⟨c, fz, h⟩ := own_kind (hOA o) g hg
    exact ⟨c, _, fz, h, by simp⟩
  have k2 : Kp [83, 39] w6 (w6.setCell ⟨b3, 3, none⟩ (.slice A6 (l'.length + 1) c6)) := Kp.set h6 (by simp) _ _
  have kk := (HK5.trans k0).trans (k1.trans k2)
  have kb : Below w.heap.size w (w6.setCell ⟨b3, 3, none⟩ (.slice A6 (l'.length + 1) c6)) :=
    (hb5.trans (((Below.refl _ w5).alloc (Nat.le_refl _) o).mono hb5.size)).trans (((hb6.mono (by omega)).trans ((Below.refl w.heap.size w6).setCell (p := ⟨b3, 3, none⟩) (by simp; omega) _)))
  refine ⟨heap_setCell_same w6 b3 3 _ _ _ h6, own_kp HI.ex kk (by decide), ?_, fun x hx => ?_, ?_, kb, ?_⟩
  · exact own_kp h6o (Kp.set (ts := [39]) h6 (by simp) _ _) (by decide)
  · rcases List.mem_append.1 hx with hx | hx
    · exact (HI.each x hx).kp kk (by decide) (by decide) (by decide)
    · rw [List.mem_singleton.1 hx]
      exact (ho5.kp (k0.trans (k1.trans k2)) (by decide) (by decide) (by decide)).le hw4
  · rw [htk, bares, List.map_append, ← HI.like, List.map_singleton]
    congr 2
    show Plc.bare _ = Plc.bare _
    unfold Plc.bare
    rw [sameC_bare hs5]
  · have e1 : w.heap.size + 1 ≠ b3 := by omega
    have r1 := (heap_alloc_old w5 o (Array.getElem?_eq_some_iff.1 hR5).1).trans hR5
    have r2 := (hb6.block (w.heap.size + 1) (by omega)).trans r1
    exact ((Only.set (B := b3) (w := w6) 3 _).block (w.heap.size + 1) (Array.getElem?_eq_some_iff.1 r2).1 e1).trans r2

set_option maxHeartbeats 8000000 in
set_option maxRecDepth 100000 in
theorem Copy_any (k : Krn) (A : Option Addr) (c : Nat) (l : List Plc) (w : World) (hk : k.ok w) (h : PlsOk w A l) (hm : ∀ x ∈ l, modErr x.m = 0) (h8 : l.length ≤ 8) (hx8 : k.ex.length ≤ 1000000) :
    Calls Tryz.prog 82 #[rgV k A l c] w fun e w' => (∃ k' A' l' c', e = .returned (rgV k' A' l' c') ∧ k'.bare = k.bare ∧ bares l' = bares l ∧ RgOwn w' w.heap.size k' A' l' c') ∧ Below w.heap.size w w' := by
  obtain ⟨w0, hw0⟩ : ∃ w0, w0 = w.alloc (.cells #[.int .i64 k.major, .int .i64 k.minor, .slice k.eA k.ex.length k.eC, .slice A l.length c] 39) := ⟨_, rfl⟩
  obtain ⟨x0, hx0⟩ : ∃ x0, x0 = w0.alloc (.cells #[.int .i64 0, .int .i64 0, .slice none 0 0, .slice none 0 0] 39) := ⟨_, rfl⟩
  obtain ⟨x1, hx1⟩ : ∃ x1, x1 = x0.alloc (.cells #[.int .i64 k.major, .int .i64 k.minor, .slice k.eA k.ex.length k.eC] 24) := ⟨_, rfl⟩
  have hz0 : w0.heap.size = w.heap.size + 1 := by rw [hw0]; simp
  have hzx : x0.heap.size = w.heap.size + 2 := by rw [hx0]; simp; omega
  have hzy : x1.heap.size = w.heap.size + 3 := by rw [hx1]; simp; omega
  have h0 : w0.heap[w.heap.size]? = some (.cells #[.int .i64 k.major, .int .i64 k.minor, .slice k.eA k.ex.length k.eC, .slice A l.length c] 39 (0, 0)) := by rw [hw0]; exact heap_alloc_new w _
  have hb0 : Below w.heap.size w w0 := hw0 ▸ (Below.refl _ _).alloc (Nat.le_refl _) _
  have hbx : Below w0.heap.size w0 x0 := hx0 ▸ (Below.refl _ _).alloc (Nat.le_refl _) _
  have hby : Below x0.heap.size x0 x1 := hx1 ▸ (Below.refl _ _).alloc (Nat.le_refl _) _
  have hR0 : x0.heap[w.heap.size + 1]? = some (.cells #[.int .i64 0, .int .i64 0, .slice none 0 0, .slice none 0 0] 39 (0, 0)) := by rw [hx0, ← hz0]; exact heap_alloc_new w0 _
  have hK1 : x1.heap[w.heap.size + 2]? = some (.cells #[.int .i64 k.major, .int .i64 k.minor, .slice k.eA k.ex.length k.eC] 24 (0, 0)) := by rw [hx1, ← hzx]; exact heap_alloc_new x0 _
  have HR1 := Lib.hid ((hby.block (w.heap.size + 1) (by omega)).trans hR0)
  have HB1 := Lib.hid ((hb0.trans (hbx.mono hb0.size)).trans (hby.mono (Nat.le_trans hb0.size hbx.size)))
  have HG1 := Lib.hid ((hby.block w.heap.size (by omega)).trans ((hbx.block w.heap.size (by omega)).trans h0))
  have HK1 := Lib.hid hK1
  have HZ1 := Lib.hid hzy
  have hG0 := (hbx.block w.heap.size (by omega)).trans h0
  have f0 := heap_cell hG0 0
  have f1 := heap_cell hG0 1
  have f2 := heap_cell hG0 2
  have e0 := heap_cell hK1 0
  have e1 := heap_cell hK1 1
  have e2 := heap_cell hK1 2
  simp only [List.getElem?_toArray, List.getElem?_cons_zero, List.getElem?_cons_succ] at f0 f1 f2 e0 e1 e2
  have HP := Lib.hid h
  have HM := Lib.hid hm
  have c1 := Lib.hid (fun W (hb : Below w.heap.size w W) => CloneExp_any k.eA k.eC k.ex W (hk.ex.1.below hb) hx8)
  have hw0' := hw0.symm
  have hx0' := hx0.symm
  have hx1' := hx1.symm
  clear hw0 hx0 hx1 h0 hb0 hbx hby hR0 hK1 hk h hm hG0
  go_enter Tryz.func82, Tryz.ntmps82
  go_wp2_with fail
  refine (c1.out _ HB1.out).mono ?_; rintro e w2 ⟨⟨A2, c2, rfl, ho2⟩, hb2⟩
  have HO2 := Lib.hid ho2
  have HB2 := Lib.hid (HB1.out.trans (hb2.mono HB1.out.size))
  have HS2 := Lib.hid (show w.heap.size + 3 ≤ w2.heap.size by have := hb2.size; have := HZ1.out; omega)
  have HR2 := Lib.hid ((hb2.block (w.heap.size + 1) (Array.getElem?_eq_some_iff.1 HR1.out).1).trans HR1.out)
  have HG2 := Lib.hid ((hb2.block w.heap.size (Array.getElem?_eq_some_iff.1 HG1.out).1).trans HG1.out)
  have hK2 := (hb2.block (w.heap.size + 2) (Array.getElem?_eq_some_iff.1 HK1.out).1).trans HK1.out
  have HK2 := Lib.hid hK2
  have k0 := heap_cell hK2 0
  have k1 := heap_cell hK2 1
  have k2 := heap_cell hK2 2
  have kf := heap_free hK2 2
  have g3 := heap_cell HG2.out 3
  simp only [List.getElem?_toArray, List.getElem?_cons_zero, List.getElem?_cons_succ] at k0 k1 k2 g3
  clear ho2 hb2 hK2 c1 f0 f1 f2 e0 e1 e2
  obtain ⟨w3, hw3⟩ : ∃ w3, w3 = (w2.setCell ⟨w.heap.size + 2, 2, none⟩ (.slice A2 k.ex.length c2)).alloc (.cells #[.int .i64 k.major, .int .i64 k.minor, .slice A2 k.ex.length c2, .slice none 0 0] 39) := ⟨_, rfl⟩
  have hs3 : Only (w.heap.size + 2) w2 (w2.setCell ⟨w.heap.size + 2, 2, none⟩ (.slice A2 k.ex.length c2)) := Only.set 2 _
  have hsz : (w2.setCell ⟨w.heap.size + 2, 2, none⟩ (.slice A2 k.ex.length c2)).heap.size = w2.heap.size := by simp
  have hbs : Below w2.heap.size (w2.setCell ⟨w.heap.size + 2, 2, none⟩ (.slice A2 k.ex.length c2)) w3 := by rw [hw3, ← hsz]; exact (Below.refl _ _).alloc (Nat.le_refl _) _
  have h33 : w3.heap[w2.heap.size]? = some (.cells #[.int .i64 k.major, .int .i64 k.minor, .slice A2 k.ex.length c2, .slice none 0 0] 39 (0, 0)) := by rw [hw3, ← hsz]; exact heap_alloc_new _ _
  have hz3 := HS2.out
  have hz1 := HZ1.out
  have ho3 : ExpOwn w3 x1.heap.size (.slice A2 k.ex.length c2) k.ex := own_same HO2.out fun g h1 h2 => (hbs.block g h2).trans (hs3.block g h2 (by omega))
  have hb3 : Below w.heap.size w w3 := HB2.out.trans ((hs3.below (by omega)).mono (by omega) |>.trans (hbs.mono (by omega)))
  have hr3 := (hbs.block (w.heap.size + 1) (by omega)).trans ((hs3.block (w.heap.size + 1) (by omega) (by omega)).trans HR2.out)
  have hg3 := (hbs.block w.heap.size (by omega)).trans ((hs3.block w.heap.size (by omega) (by omega)).trans HG2.out)
  have HI0 := Lib.hid (show CopyInv w k w2.heap.size 0 l w3 (.slice A2 k.ex.length c2) (.slice none 0 0) [] from
    ⟨h33, ownM_le ho3 (by omega), World.ownsRow_nil _ _ _ _, by simp, rfl, hb3, hr3⟩)
  have HG3 := Lib.hid hg3
  have n3 : ∀ o, ((w2.setCell ⟨w.heap.size + 2, 2, none⟩ (.slice A2 k.ex.length c2)).alloc o).cell? ⟨w.heap.size, 3, none⟩ = some (.slice A l.length c) := fun o => by
    have h1 := (hs3.block w.heap.size (by omega) (by omega)).trans HG2.out
    have h2 := (heap_alloc_old _ o (Array.getElem?_eq_some_iff.1 h1).1).trans h1
    exact heap_cell h2 3
  have HW3 := Lib.hid hw3.symm
  clear hw3 hs3 hbs h33 hz3 ho3 hb3 hr3 hg3 g3
  have hs3' : w3.heap.size = w2.heap.size + 1 := by rw [← HW3.out]; simp
  have HS3 := Lib.hid hs3'
  clear hs3' hsz
  go_wp2_with fail
  rw [HW3.out]
  go_loopw [18] (fun i wr => ∃ (j : Nat) (v : Value) (l' : List Plc), j ≤ l.length ∧ i = .int .i64 j ∧ CopyInv w k w2.heap.size j l wr (.slice A2 k.ex.length c2) v l') (fun i _ => l.length - (intOf i).toNat)
  case atStart => exact ⟨0, _, _, by omega, rfl, HI0.out⟩
  case round =>
    obtain ⟨j, v, l', hj, rfl, hI⟩ := hrel
    have HI := Lib.hid hI
    by_cases hlt : j < l.length
    · have hlt' : (j : Int) < l.length := by omega
      obtain ⟨ad, rfl, hab, p0, p1, p2, p3, p4, p5, p6, p7⟩ := plc_at HP.out.row hI.bel j hlt
      have hx := HP.out.each l[j] (List.getElem_mem _)
      have hmm := HM.out l[j] (List.getElem_mem _)
      have HTK := Lib.hid (show bares (l.take (j + 1)) = bares (l.take j) ++ [(l[j]'hlt).bare] by rw [List.take_succ_eq_append_getElem hlt, bares, List.map_append]; rfl)
      obtain ⟨y, hy⟩ : ∃ y, y = l[j]'hlt := ⟨_, rfl⟩
      simp only [← hy] at p0 p1 p2 p3 p4 p5 p6 p7 hx hmm HTK
      have cO := Lib.hid (fun W (hb : Below w.heap.size w W) => Own_any y.m W (hx.below hb) (mod_small hmm))
      obtain ⟨w4, hw4⟩ : ∃ w4, w4 = wr.alloc (.cells #[.string y.m.name, .int .i64 y.m.major, .int .i64 y.m.minor, .string y.m.text, .slice y.m.eA y.m.ex.length y.m.eC, .slice y.m.iA y.m.im.length y.m.iC, .slice y.m.pA y.m.pa.length y.m.pC, .int .i64 y.first] 83) := ⟨_, rfl⟩
      obtain ⟨d0, d1, d2, d3, d4, d5, d6, d7, hz4, hb4⟩ := box8 hw4
      have hw4' := hw4.symm
      have hbl := (Array.getElem?_eq_some_iff.1 hI.heap).1
      have h4 := (hb4.block w2.heap.size hbl).trans hI.heap
      have q3 := heap_cell h4 3
      have qf := heap_free h4 3
      simp only [List.getElem?_toArray, List.getElem?_cons_zero, List.getElem?_cons_succ] at q3
      have H4 := Lib.hid h4
      have HB4 := Lib.hid (hI.bel.trans (hb4.mono hI.bel.size))
      have HB4' := Lib.hid hb4
      have HZ4 := Lib.hid hz4
      clear hw4 hb4 hz4 h4 hI hx hmm hy
      have HLN := Lib.hid (show l'.length ≤ 8 by
        have := congrArg List.length HI.out.like
        simp only [List.length_map, List.length_take] at this
        omega)
      have HLRX := Lib.hid (fun (x : Plc) => show l'.length + ([x] : List Plc).length ≤ 1000000 by have := HLN.out; simp only [List.length_singleton]; omega)
      have HZ45 := Lib.hid (show wr.heap.size < w4.heap.size by have := HZ4.out; omega)
      go_wp2_with fail
      go_upto_region 7 with fail
      go_region_law (first
        | (refine step_plcs _ (by rfl) (.tmp 23) (.tmp 30) (by rfl) (w2.heap.size + 1) v l' (by rfl) (HOA.out _) (some ⟨w5.heap.size, 0, none⟩) 1 [⟨m', y.first⟩] (by rfl) HRA.out HLR.out (HBS.out _) ?_; intro v' w6 ho6 hb6 hg6; obtain ⟨A6, c6, rfl⟩ := own_slice ho6; have h6 := (hb6.block w2.heap.size (Nat.lt_succ_self _)).trans (HJA.out _); have z3 := heap_cell h6 3; have zf := heap_free h6 3; simp only [List.getElem?_toArray, List.getElem?_cons_zero, List.getElem?_cons_succ] at z3; have H6 := Lib.hid h6; have HO6 := Lib.hid ho6; have HG6 := Lib.hid hg6; have HB6 := Lib.hid hb6; clear h6 ho6 hb6 hg6)
        | (go_simp; go_at_call 125; (with_reducible refine (cO.out _ HB4.out.drew).mono ?_); rintro e w5 ⟨⟨m', rfl, hs5, ho5⟩, hb5⟩; obtain ⟨hl5, q35, q3a, HJA⟩ := copy_a H4.out hb5; obtain ⟨HK5, HOA, HRA, HBS, HRS⟩ := copy_b HI.out HB4'.out hb5 hl5 m' y.first; have d75 := (hb5.cell (p := ⟨wr.heap.size, 7, none⟩) HZ45.out).trans d7; have HB5 := Lib.hid (HB4.out.drew.trans (hb5.mono HB4.out.size)); have HS5 := Lib.hid hs5; have HO5 := Lib.hid ho5; have HLR := Lib.hid (HLRX.out ⟨m', y.first⟩); clear hl5 hs5 ho5 hb5))
      all_goals (
        go_wp2_with fail
        go_roundw
        case rel => exact ⟨j + 1, _, _, by omega, by go_num, copy_c (w4 := w4) HI.out HS2.out HB5.out HK5.out HOA.out (HBS.out _) HRS.out H6.out HO6.out HG6.out HB6.out HS5.out HO5.out HB4.out.size HTK.out⟩
        case measure => (simp [intOf]; try omega))
    · obtain rfl : j = l.length := by omega
      have hbl := hI.bel
      obtain ⟨A', c', rfl⟩ := own_slice hI.row
      have z0 := heap_cell hI.heap 0
      have z1 := heap_cell hI.heap 1
      have z2 := heap_cell hI.heap 2
      have z3 := heap_cell hI.heap 3
      have r0 := heap_cell hI.res 0
      have r1 := heap_cell hI.res 1
      have r2 := heap_cell hI.res 2
      have r3 := heap_cell hI.res 3
      have q0 := heap_free hI.res 0
      have q1 := heap_free hI.res 1
      have q2 := heap_free hI.res 2
      have q3 := heap_free hI.res 3
      simp only [List.getElem?_toArray, List.getElem?_cons_zero, List.getElem?_cons_succ] at z0 z1 z2 z3 r0 r1 r2 r3
      clear hI hbl
      go_wp2_with fail
      obtain ⟨hg, ho⟩ := set4 HI.out.res (.int .i64 k.major) (.int .i64 k.minor) (.slice A2 k.ex.length c2) (.slice A' l'.length c')
      refine bodyPost_ret (results_cell_row rfl _ _ (w.heap.size + 1) 39 _ (0, 0) _ rfl hg Tryz.underlying39 rfl Tryz.sizeReg) rfl ?_
      have hkp := ho.kp HI.out.res (ts := [39]) (by simp)
      have hs2 := HS2.out
      refine ⟨⟨⟨k.major, k.minor, k.ex, A2, c2⟩, A', l', c', rfl, rfl, by rw [HI.out.like, List.take_length], ⟨own_kp HI.out.ex hkp (by decide), ⟨ownM_le (own_kp HI.out.row hkp (by decide)) (by omega), fun x hx => (HI.out.each x hx).kp hkp (by decide) (by decide) (by decide)⟩⟩⟩, HI.out.bel.trans ((ho.below (Nat.le_of_lt (Array.getElem?_eq_some_iff.1 HI.out.res).1)).mono (by omega))⟩

end Go.Proofs.YtjiedaialianmaaGreat
end
