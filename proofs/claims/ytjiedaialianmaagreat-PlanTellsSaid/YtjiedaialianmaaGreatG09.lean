import Derived.Test.YtjiedaialianmaaGreatG08
import Derived.Test.YtjiedaialianmaaGreatG03
import Derived.Maps.AppendAt
import Derived.Deep.AppendLies
import Derived.OwnWalk
import Derived.RangeFuncBox
import Derived.RegionTactic
import Derived.Test.YtjiedaialianmaaGreatG05
import Derived.WalkKit
import Derived.Lib.SliceRun
import Derived.Deep.RegionWith
import Derived.Deep.CutRange
import Derived.Laws.Rows
section

namespace Go.Proofs.YtjiedaialianmaaGreat
open Go.RowKit

/-- but for block B nothing has turned -/
structure Only (B : Nat) (w w' : World) : Prop where
  os : w'.os = w.os
  tape : w'.tape = w.tape
  output : w'.output = w.output
  size : w.heap.size ≤ w'.heap.size
  block : ∀ k, k < w.heap.size → k ≠ B → w'.heap[k]? = w.heap[k]?
theorem Only.refl (B : Nat) (w : World) : Only B w w := ⟨rfl, rfl, rfl, Nat.le_refl _, fun _ _ _ => rfl⟩
theorem Only.trans {B : Nat} {a b c : World} (h : Only B a b) (k : Only B b c) : Only B a c :=
  ⟨k.os.trans h.os, k.tape.trans h.tape, k.output.trans h.output, Nat.le_trans h.size k.size, fun i hi hb => (k.block i (Nat.lt_of_lt_of_le hi h.size) hb).trans (h.block i hi hb)⟩
theorem Only.set {B : Nat} {w : World} (o : Nat) (v : Value) : Only B w (w.setCell ⟨B, o, none⟩ v) :=
  ⟨rfl, rfl, rfl, by simp [World.setCell], fun k _ hk => Below.heap_setCell _ _ _ _ hk⟩
theorem Only.below {B : Nat} {w w' : World} (h : Only B w w') (hB : B ≤ w.heap.size) : Below B w w' := ⟨h.os, h.tape, h.output, h.size, fun k hk => h.block k (by omega) (by omega)⟩
theorem Only.cell {B : Nat} {w w' : World} (h : Only B w w') (c o : Nat) (h1 : c < w.heap.size) (h2 : c ≠ B) : w'.cell? ⟨c, o, none⟩ = w.cell? ⟨c, o, none⟩ := World.cell?_of_block (h.block c h1 h2)
theorem Only.frozen {B : Nat} {w w' : World} (h : Only B w w') (c o : Nat) (h1 : c < w.heap.size) (h2 : c ≠ B) : w'.frozen? ⟨c, o, none⟩ = w.frozen? ⟨c, o, none⟩ := World.frozen?_of_block (h.block c h1 h2)

/-- blocks of other types than these stand as they stood -/
def Kp (ts : List TypeId) (w w' : World) : Prop := ∀ (k : Nat) (cs : Array Value) (t : TypeId) (fr : Nat × Nat), w.heap[k]? = some (.cells cs t fr) → t ∉ ts → w'.heap[k]? = some (.cells cs t fr)
theorem Kp.refl (ts : List TypeId) (w : World) : Kp ts w w := fun _ _ _ _ h _ => h
theorem Kp.trans {ts : List TypeId} {a b c : World} (h : Kp ts a b) (k : Kp ts b c) : Kp ts a c := fun i cs t fr hi ht => k i cs t fr (h i cs t fr hi ht) ht
theorem Kp.alloc {ts : List TypeId} {a b : World} (h : Kp ts a b) (o : Obj) : Kp ts a (b.alloc o) := fun i cs t fr hi ht =>
  (heap_alloc_old b o (Array.getElem?_eq_some_iff.1 (h i cs t fr hi ht)).1).trans (h i cs t fr hi ht)
theorem Only.kp {B : Nat} {w w' : World} {cs : Array Value} {t : TypeId} {fr : Nat × Nat} (h : Only B w w') (hB : w.heap[B]? = some (.cells cs t fr)) {ts : List TypeId} (ht : t ∈ ts) : Kp ts w w' := fun i cs' t' fr' hi ht' => by
  by_cases e : i = B
  · subst e; rw [hB] at hi; injection hi with hi; injection hi with _ h2 _; subst h2; exact absurd ht ht'
  · exact (h.block i (Array.getElem?_eq_some_iff.1 hi).1 e).trans hi
theorem Kp.set {ts : List TypeId} {w : World} {b : Nat} {cs : Array Value} {t : TypeId} {fr : Nat × Nat} (hb : w.heap[b]? = some (.cells cs t fr)) (ht : t ∈ ts) (o : Nat) (v : Value) : Kp ts w (w.setCell ⟨b, o, none⟩ v) :=
  (Only.set o v).kp hb ht
theorem Kp.grown {ts : List TypeId} {w w' : World} {row : Option Nat} (hg : w.grownBy w' row) (hr : ∀ g, row = some g → ∃ cs t fr, w.heap[g]? = some (.cells cs t fr) ∧ t ∈ ts) : Kp ts w w' := fun i cs t fr hi ht => by
  refine (hg.block i (Array.getElem?_eq_some_iff.1 hi).1 fun e => ?_).trans hi
  obtain ⟨cs', t', fr', h1, h2⟩ := hr i e.symm
  rw [hi] at h1; injection h1 with h1; injection h1 with _ h3 _; subst h3; exact ht h2
theorem own_kp {ts : List TypeId} {w w' : World} {base size n : Nat} {e : TypeId} {v : Value} {xs : List Value} (h : w.ownsRow base e size v n xs) (hk : Kp ts w w') (he : e ∉ ts) : w'.ownsRow base e size v n xs := by
  refine ⟨h.1, ?_⟩
  rcases h.2 with h0 | ⟨g, cap, cur, e1, e2, e3, e4⟩
  · exact .inl h0
  · exact .inr ⟨g, cap, cur, e1, e2, hk g _ _ _ e3 he, e4⟩
theorem own_kind {w : World} {base size n : Nat} {e : TypeId} {v : Value} {xs : List Value} (h : w.ownsRow base e size v n xs) : ∀ g, v.ownBlock = some g → ∃ c fz, w.heap[g]? = some (.cells c e fz) := by
  intro g hg
  rcases h.2 with ⟨rfl, _⟩ | ⟨g', cap, cur, rfl, _, hgg, _⟩
  · simp [Value.ownBlock] at hg
  · simp [Value.ownBlock] at hg
    subst hg
    exact ⟨cur, _, hgg⟩
theorem heap_cell {w : World} {b : Nat} {cs : Array Value} {t : TypeId} {fr : Nat × Nat} (h : w.heap[b]? = some (.cells cs t fr)) (o : Nat) : w.cell? ⟨b, o, none⟩ = cs[o]? := by simp [World.cell?, h]
theorem heap_free {w : World} {b : Nat} {cs : Array Value} {t : TypeId} (h : w.heap[b]? = some (.cells cs t (0, 0))) (o : Nat) : w.frozen? ⟨b, o, none⟩ = false := by simp [World.frozen?, h]
theorem Kp.mono {ts ts' : List TypeId} {w w' : World} (h : Kp ts w w') (hs : ∀ t ∈ ts, t ∈ ts') : Kp ts' w w' := fun k cs t fr hk ht => h k cs t fr hk (fun e => ht (hs t e))
theorem Tryz.infoExp : (Tryz.prog.info? 159).map (fun i => (i.zero, i.size, i.bytes)) = some (some (.agg #[.string ⟨#[]⟩, .int .i64 0]), 2, 24) := by kernel_rfl
/-- a slice of them that lies in blocks of the call's own, from block base on -/
def ExpOwn (w : World) (base : Nat) (v : Value) (l : List Exp) : Prop := w.ownsRow base 159 2 v l.length (l.flatMap Exp.cells)
theorem ExpOwn.row {w : World} {base : Nat} {v : Value} {l : List Exp} (h : ExpOwn w base v l) : ∃ (A : Option Addr) (c : Nat), v = .slice A l.length c ∧ Row Exp.cells 2 w A l := by
  rcases h.2 with ⟨rfl, h0⟩ | ⟨g', cap, cur, rfl, _⟩
  · exact ⟨none, 0, by rw [h0], ⟨flat_length (enc := Exp.cells) (k := 2) (fun _ => rfl) _, fun hn => by omega⟩⟩
  · exact ⟨_, _, rfl, Reads.of_own h⟩
theorem ExpOwn.nil (w : World) (base : Nat) : ExpOwn w base (.slice none 0 0) [] := World.ownsRow_nil _ _ _ _
theorem Tryz.infoImp : (Tryz.prog.info? 173).map (fun i => (i.zero, i.size, i.bytes)) = some (some (.agg #[.string ⟨#[]⟩, .string ⟨#[]⟩, .int .i64 0, .int .i64 0]), 4, 48) := by kernel_rfl
/-- a slice of them that lies in blocks of the call's own, from block base on -/
def ImpOwn (w : World) (base : Nat) (v : Value) (l : List Imp) : Prop := w.ownsRow base 173 4 v l.length (l.flatMap Imp.cells)
theorem ImpOwn.row {w : World} {base : Nat} {v : Value} {l : List Imp} (h : ImpOwn w base v l) : ∃ (A : Option Addr) (c : Nat), v = .slice A l.length c ∧ Row Imp.cells 4 w A l := by
  rcases h.2 with ⟨rfl, h0⟩ | ⟨g', cap, cur, rfl, _⟩
  · exact ⟨none, 0, by rw [h0], ⟨flat_length (enc := Imp.cells) (k := 4) (fun _ => rfl) _, fun hn => by omega⟩⟩
  · exact ⟨_, _, rfl, Reads.of_own h⟩
theorem ImpOwn.nil (w : World) (base : Nat) : ImpOwn w base (.slice none 0 0) [] := World.ownsRow_nil _ _ _ _
theorem Tryz.infoPat : (Tryz.prog.info? 180).map (fun i => (i.zero, i.size, i.bytes)) = some (some (.agg #[.int .i64 0, .int .i64 0, .int .i64 0, .int .i64 0]), 4, 32) := by kernel_rfl
/-- a slice of them that lies in blocks of the call's own, from block base on -/
def PatOwn (w : World) (base : Nat) (v : Value) (l : List Pat) : Prop := w.ownsRow base 180 4 v l.length (l.flatMap Pat.cells)
theorem PatOwn.row {w : World} {base : Nat} {v : Value} {l : List Pat} (h : PatOwn w base v l) : ∃ (A : Option Addr) (c : Nat), v = .slice A l.length c ∧ Row Pat.cells 4 w A l := by
  rcases h.2 with ⟨rfl, h0⟩ | ⟨g', cap, cur, rfl, _⟩
  · exact ⟨none, 0, by rw [h0], ⟨flat_length (enc := Pat.cells) (k := 4) (fun _ => rfl) _, fun hn => by omega⟩⟩
  · exact ⟨_, _, rfl, Reads.of_own h⟩
theorem PatOwn.nil (w : World) (base : Nat) : PatOwn w base (.slice none 0 0) [] := World.ownsRow_nil _ _ _ _
theorem results_cell_tmp {P : Program} {fn : Func} {p u : Tmp} {ty : TypeId} (h : fn.results = #[.cell p ty, .tmp u]) (tmps : Array Value) (w : World) (g : Nat) (t : TypeId) (cs : Array Value) (fr : Nat × Nat) (d : TypeDesc)
    (hp : tmps.getD p undef = .pointer (some ⟨g, 0, none⟩)) (hg : w.heap[g]? = some (.cells cs t fr))
    (hu : P.underlying ty = some d) (hd : (match d with | .struct _ | .array _ _ => true | _ => false) = true) (hi : (P.info? ty).map (·.size) = some cs.size) :
    (results fn tmps).run P w = .ok (.tuple #[.agg cs, tmps.getD u undef]) w := by
  have hp' : tmps[p]?.getD undef = .pointer (some ⟨g, 0, none⟩) := by simpa using hp
  simp [results, h, hp', asAddr, run_loadVar_row w g t ty cs fr d hg hu hd hi]

theorem set7 {W : World} {b : Nat} {c0 c1 c2 c3 c4 c5 c6 : Value} {t : TypeId} (h : W.heap[b]? = some (.cells #[c0, c1, c2, c3, c4, c5, c6] t (0, 0))) (x0 x1 x2 x3 x4 x5 x6 : Value) :
    (((((((W.setCell ⟨b, 0, none⟩ x0).setCell ⟨b, 1, none⟩ x1).setCell ⟨b, 2, none⟩ x2).setCell ⟨b, 3, none⟩ x3).setCell ⟨b, 4, none⟩ x4).setCell ⟨b, 5, none⟩ x5).setCell ⟨b, 6, none⟩ x6).heap[b]? = some (.cells #[x0, x1, x2, x3, x4, x5, x6] t (0, 0)) ∧
    Only b W (((((((W.setCell ⟨b, 0, none⟩ x0).setCell ⟨b, 1, none⟩ x1).setCell ⟨b, 2, none⟩ x2).setCell ⟨b, 3, none⟩ x3).setCell ⟨b, 4, none⟩ x4).setCell ⟨b, 5, none⟩ x5).setCell ⟨b, 6, none⟩ x6) := by
  have h0 : (W.setCell ⟨b, 0, none⟩ x0).heap[b]? = some (.cells #[x0, c1, c2, c3, c4, c5, c6] t (0, 0)) := heap_setCell_same W b 0 _ _ x0 h
  have h1 : ((W.setCell ⟨b, 0, none⟩ x0).setCell ⟨b, 1, none⟩ x1).heap[b]? = some (.cells #[x0, x1, c2, c3, c4, c5, c6] t (0, 0)) := heap_setCell_same (W.setCell ⟨b, 0, none⟩ x0) b 1 _ _ x1 h0
  have h2 : (((W.setCell ⟨b, 0, none⟩ x0).setCell ⟨b, 1, none⟩ x1).setCell ⟨b, 2, none⟩ x2).heap[b]? = some (.cells #[x0, x1, x2, c3, c4, c5, c6] t (0, 0)) := heap_setCell_same ((W.setCell ⟨b, 0, none⟩ x0).setCell ⟨b, 1, none⟩ x1) b 2 _ _ x2 h1
  have h3 : ((((W.setCell ⟨b, 0, none⟩ x0).setCell ⟨b, 1, none⟩ x1).setCell ⟨b, 2, none⟩ x2).setCell ⟨b, 3, none⟩ x3).heap[b]? = some (.cells #[x0, x1, x2, x3, c4, c5, c6] t (0, 0)) := heap_setCell_same (((W.setCell ⟨b, 0, none⟩ x0).setCell ⟨b, 1, none⟩ x1).setCell ⟨b, 2, none⟩ x2) b 3 _ _ x3 h2
  have h4 : (((((W.setCell ⟨b, 0, none⟩ x0).setCell ⟨b, 1, none⟩ x1).setCell ⟨b, 2, none⟩ x2).setCell ⟨b, 3, none⟩ x3).setCell ⟨b, 4, none⟩ x4).heap[b]? = some (.cells #[x0, x1, x2, x3, x4, c5, c6] t (0, 0)) := heap_setCell_same ((((W.setCell ⟨b, 0, none⟩ x0).setCell ⟨b, 1, none⟩ x1).setCell ⟨b, 2, none⟩ x2).setCell ⟨b, 3, none⟩ x3) b 4 _ _ x4 h3
  have h5 : ((((((W.setCell ⟨b, 0, none⟩ x0).setCell ⟨b, 1, none⟩ x1).setCell ⟨b, 2, none⟩ x2).setCell ⟨b, 3, none⟩ x3).setCell ⟨b, 4, none⟩ x4).setCell ⟨b, 5, none⟩ x5).heap[b]? = some (.cells #[x0, x1, x2, x3, x4, x5, c6] t (0, 0)) := heap_setCell_same (((((W.setCell ⟨b, 0, none⟩ x0).setCell ⟨b, 1, none⟩ x1).setCell ⟨b, 2, none⟩ x2).setCell ⟨b, 3, none⟩ x3).setCell ⟨b, 4, none⟩ x4) b 5 _ _ x5 h4
  have h6 : (((((((W.setCell ⟨b, 0, none⟩ x0).setCell ⟨b, 1, none⟩ x1).setCell ⟨b, 2, none⟩ x2).setCell ⟨b, 3, none⟩ x3).setCell ⟨b, 4, none⟩ x4).setCell ⟨b, 5, none⟩ x5).setCell ⟨b, 6, none⟩ x6).heap[b]? = some (.cells #[x0, x1, x2, x3, x4, x5, x6] t (0, 0)) := heap_setCell_same ((((((W.setCell ⟨b, 0, none⟩ x0).setCell ⟨b, 1, none⟩ x1).setCell ⟨b, 2, none⟩ x2).setCell ⟨b, 3, none⟩ x3).setCell ⟨b, 4, none⟩ x4).setCell ⟨b, 5, none⟩ x5) b 6 _ _ x6 h5
  exact ⟨h6, ((((((Only.set 0 x0).trans (Only.set 1 x1)).trans (Only.set 2 x2)).trans (Only.set 3 x3)).trans (Only.set 4 x4)).trans (Only.set 5 x5)).trans (Only.set 6 x6)⟩
theorem own_same {w w' : World} {base size n : Nat} {e : TypeId} {v : Value} {xs : List Value} (h : w.ownsRow base e size v n xs) (hb : ∀ g, base ≤ g → g < w.heap.size → w'.heap[g]? = w.heap[g]?) : w'.ownsRow base e size v n xs := by
  refine ⟨h.1, ?_⟩
  rcases h.2 with h0 | ⟨g, cap, cur, e1, e2, e3, e4⟩
  · exact .inl h0
  · exact .inr ⟨g, cap, cur, e1, e2, (hb g e2 (Array.getElem?_eq_some_iff.1 e3).1).trans e3, e4⟩
theorem mk_ok {W : World} {base : Nat} {a0 a3 : ByteArray} {a1 a2 : Int} {es : List Exp} {is : List Imp} {ps : List Pat} {eA iA pA : Option Addr} {eC iC pC : Nat} (hE : ExpOwn W base (.slice eA es.length eC) es) (hI : ImpOwn W base (.slice iA is.length iC) is) (hP : PatOwn W base (.slice pA ps.length pC) ps)
    (hq : es.length ≤ big ∧ (∀ x ∈ es, x.name.size ≤ big) ∧ is.length ≤ big ∧ (∀ x ∈ is, x.mod.size ≤ big ∧ x.name.size ≤ big) ∧ ps.length ≤ big ∧ a0.size ≤ big ∧ a3.size ≤ big) : (⟨a0, a1, a2, a3, es, is, ps, eA, eC, iA, iC, pA, pC⟩ : Mod).ok W :=
  ⟨⟨Reads.of_own hE, hq.1, hq.2.1⟩, ⟨Reads.of_own hI, hq.2.2.1, hq.2.2.2.1⟩, ⟨Reads.of_own hP, hq.2.2.2.2.1⟩, hq.2.2.2.2.2.1, hq.2.2.2.2.2.2⟩
end Go.Proofs.YtjiedaialianmaaGreat
end

section

namespace Go.Proofs.YtjiedaialianmaaGreat
open Go.RowKit Go.Lib

theorem exp_one (l : List Exp) : ∀ u ∈ l.flatMap Exp.cells, u.oneCell' = true := by
  intro u hu
  obtain ⟨x, _, hx⟩ := List.mem_flatMap.1 hu
  simp only [Exp.cells, List.mem_cons, List.not_mem_nil, or_false] at hx
  rcases hx with rfl | rfl <;> rfl
set_option maxHeartbeats 2000000 in
set_option maxRecDepth 100000 in
theorem CloneExp_any (A : Option Addr) (c : Nat) (l : List Exp) (w : World) (h : Row Exp.cells 2 w A l) (hl : l.length ≤ 1000000) :
    Calls Tryz.prog 152 #[.slice A l.length c] w fun e w' => (∃ A' c', e = .returned (.slice A' l.length c') ∧ ExpOwn w' w.heap.size (.slice A' l.length c') l) ∧ Below w.heap.size w w' := by
  have q : ∀ (w : World) (a : Option Addr) (n c n' c' : Nat), (binOp .eql 22 (.slice a n c) (.slice none n' c')).run Tryz.prog w = .ok (.bool a.isNone) w := fun w a n c n' c' => Lib.run_eql_slice_nil w _ _ a n c n' c' Tryz.underlying22
  cases A with
  | none =>
    have h0 : l = [] := by
      cases l with
      | nil => rfl
      | cons x r => obtain ⟨a, e, _⟩ := h.2 (by simp); cases e
    subst h0
    clear h
    go_enter Tryz.func152, Tryz.ntmps152
    go_wp2
    go_ret
    exact ⟨⟨none, 0, rfl, World.ownsRow_nil w _ _ _⟩, Below.refl _ _⟩
  | some ad =>
    obtain ⟨i0, hi, hz0, hz1, hz2⟩ := info_parts Tryz.infoExp
    have H := Lib.hid (show Reads (w.alloc (.cells #[] 159)) (w.heap.size + 1) 2 (some ad) l.length (l.flatMap Exp.cells) by
      have := h.below ((Below.refl _ _).alloc (Nat.le_refl _) (.cells #[] 159))
      unfold Row at this
      simpa using this)
    clear h
    go_enter Tryz.func152, Tryz.ntmps152
    go_wp2_with (at_builtin; refine wpList_append_any (w.alloc (.cells #[] 159)) rfl _ _ 22 rfl w.heap.size 159 i0 (.agg #[.string ⟨#[]⟩, .int .i64 0]) 2 24 Tryz.underlying22 hi hz0 hz1 hz2 rfl (by decide) _ _ _ rfl (World.ownsRow_made w #[] 0 (Nat.le_refl _) (Nat.zero_le _) rfl) (w.heap.size + 1) (some ad) l.length c (l.flatMap Exp.cells) rfl H.out (exp_one l) (by unfold maxLen; omega) (by omega) (by simp) ?_; intro v' w1 hown hgrow _)
    go_ret
    obtain ⟨A', c', hv⟩ := own_slice hown
    rw [Nat.zero_add] at hv
    subst hv
    exact ⟨⟨A', c', rfl, by unfold ExpOwn; simpa using hown⟩, ((Below.refl _ w).alloc (Nat.le_refl _) _).grown hgrow (by simp) (own_base (World.ownsRow_made w #[] 0 (Nat.le_refl _) (Nat.zero_le _) rfl (e := 159) (size := 2)))⟩

theorem imp_one (l : List Imp) : ∀ u ∈ l.flatMap Imp.cells, u.oneCell' = true := by
  intro u hu
  obtain ⟨x, _, hx⟩ := List.mem_flatMap.1 hu
  simp only [Imp.cells, List.mem_cons, List.not_mem_nil, or_false] at hx
  rcases hx with rfl | rfl | rfl | rfl <;> rfl
set_option maxHeartbeats 2000000 in
set_option maxRecDepth 100000 in
theorem CloneImp_any (A : Option Addr) (c : Nat) (l : List Imp) (w : World) (h : Row Imp.cells 4 w A l) (hl : l.length ≤ 1000000) :
    Calls Tryz.prog 193 #[.slice A l.length c] w fun e w' => (∃ A' c', e = .returned (.slice A' l.length c') ∧ ImpOwn w' w.heap.size (.slice A' l.length c') l) ∧ Below w.heap.size w w' := by
  have q : ∀ (w : World) (a : Option Addr) (n c n' c' : Nat), (binOp .eql 67 (.slice a n c) (.slice none n' c')).run Tryz.prog w = .ok (.bool a.isNone) w := fun w a n c n' c' => Lib.run_eql_slice_nil w _ _ a n c n' c' Tryz.underlying67
  cases A with
  | none =>
    have h0 : l = [] := by
      cases l with
      | nil => rfl
      | cons x r => obtain ⟨a, e, _⟩ := h.2 (by simp); cases e
    subst h0
    clear h
    go_enter Tryz.func193, Tryz.ntmps193
    go_wp2
    go_ret
    exact ⟨⟨none, 0, rfl, World.ownsRow_nil w _ _ _⟩, Below.refl _ _⟩
  | some ad =>
    obtain ⟨i0, hi, hz0, hz1, hz2⟩ := info_parts Tryz.infoImp
    have H := Lib.hid (show Reads (w.alloc (.cells #[] 173)) (w.heap.size + 1) 4 (some ad) l.length (l.flatMap Imp.cells) by
      have := h.below ((Below.refl _ _).alloc (Nat.le_refl _) (.cells #[] 173))
      unfold Row at this
      simpa using this)
    clear h
    go_enter Tryz.func193, Tryz.ntmps193
    go_wp2_with (at_builtin; refine wpList_append_any (w.alloc (.cells #[] 173)) rfl _ _ 67 rfl w.heap.size 173 i0 (.agg #[.string ⟨#[]⟩, .string ⟨#[]⟩, .int .i64 0, .int .i64 0]) 4 48 Tryz.underlying67 hi hz0 hz1 hz2 rfl (by decide) _ _ _ rfl (World.ownsRow_made w #[] 0 (Nat.le_refl _) (Nat.zero_le _) rfl) (w.heap.size + 1) (some ad) l.length c (l.flatMap Imp.cells) rfl H.out (imp_one l) (by unfold maxLen; omega) (by omega) (by simp) ?_; intro v' w1 hown hgrow _)
    go_ret
    obtain ⟨A', c', hv⟩ := own_slice hown
    rw [Nat.zero_add] at hv
    subst hv
    exact ⟨⟨A', c', rfl, by unfold ImpOwn; simpa using hown⟩, ((Below.refl _ w).alloc (Nat.le_refl _) _).grown hgrow (by simp) (own_base (World.ownsRow_made w #[] 0 (Nat.le_refl _) (Nat.zero_le _) rfl (e := 173) (size := 4)))⟩

theorem pat_one (l : List Pat) : ∀ u ∈ l.flatMap Pat.cells, u.oneCell' = true := by
  intro u hu
  obtain ⟨x, _, hx⟩ := List.mem_flatMap.1 hu
  simp only [Pat.cells, List.mem_cons, List.not_mem_nil, or_false] at hx
  rcases hx with rfl | rfl | rfl | rfl <;> rfl
set_option maxHeartbeats 2000000 in
set_option maxRecDepth 100000 in
theorem ClonePat_any (A : Option Addr) (c : Nat) (l : List Pat) (w : World) (h : Row Pat.cells 4 w A l) (hl : l.length ≤ 1000000) :
    Calls Tryz.prog 194 #[.slice A l.length c] w fun e w' => (∃ A' c', e = .returned (.slice A' l.length c') ∧ PatOwn w' w.heap.size (.slice A' l.length c') l) ∧ Below w.heap.size w w' := by
  have q : ∀ (w : World) (a : Option Addr) (n c n' c' : Nat), (binOp .eql 68 (.slice a n c) (.slice none n' c')).run Tryz.prog w = .ok (.bool a.isNone) w := fun w a n c n' c' => Lib.run_eql_slice_nil w _ _ a n c n' c' Tryz.underlying68
  cases A with
  | none =>
    have h0 : l = [] := by
      cases l with
      | nil => rfl
      | cons x r => obtain ⟨a, e, _⟩ := h.2 (by simp); cases e
    subst h0
    clear h
    go_enter Tryz.func194, Tryz.ntmps194
    go_wp2
    go_ret
    exact ⟨⟨none, 0, rfl, World.ownsRow_nil w _ _ _⟩, Below.refl _ _⟩
  | some ad =>
    obtain ⟨i0, hi, hz0, hz1, hz2⟩ := info_parts Tryz.infoPat
    have H := Lib.hid (show Reads (w.alloc (.cells #[] 180)) (w.heap.size + 1) 4 (some ad) l.length (l.flatMap Pat.cells) by
      have := h.below ((Below.refl _ _).alloc (Nat.le_refl _) (.cells #[] 180))
      unfold Row at this
      simpa using this)
    clear h
    go_enter Tryz.func194, Tryz.ntmps194
    go_wp2_with (at_builtin; refine wpList_append_any (w.alloc (.cells #[] 180)) rfl _ _ 68 rfl w.heap.size 180 i0 (.agg #[.int .i64 0, .int .i64 0, .int .i64 0, .int .i64 0]) 4 32 Tryz.underlying68 hi hz0 hz1 hz2 rfl (by decide) _ _ _ rfl (World.ownsRow_made w #[] 0 (Nat.le_refl _) (Nat.zero_le _) rfl) (w.heap.size + 1) (some ad) l.length c (l.flatMap Pat.cells) rfl H.out (pat_one l) (by unfold maxLen; omega) (by omega) (by simp) ?_; intro v' w1 hown hgrow _)
    go_ret
    obtain ⟨A', c', hv⟩ := own_slice hown
    rw [Nat.zero_add] at hv
    subst hv
    exact ⟨⟨A', c', rfl, by unfold PatOwn; simpa using hown⟩, ((Below.refl _ w).alloc (Nat.le_refl _) _).grown hgrow (by simp) (own_base (World.ownsRow_made w #[] 0 (Nat.le_refl _) (Nat.zero_le _) rfl (e := 180) (size := 4)))⟩


end Go.Proofs.YtjiedaialianmaaGreat
end

section

namespace Go.Proofs.YtjiedaialianmaaGreat
open Go.RowKit Go.Lib

theorem Tryz.sizeMod : (Tryz.prog.info? 70).map (·.size) = some 7 := by kernel_rfl
/-- a module whose rows lie in blocks of the call's own, from block base on -/
structure Mod.own (m : Mod) (w : World) (base : Nat) : Prop where
  ex : ExpOwn w base (.slice m.eA m.ex.length m.eC) m.ex
  im : ImpOwn w base (.slice m.iA m.im.length m.iC) m.im
  pa : PatOwn w base (.slice m.pA m.pa.length m.pC) m.pa
section
variable {m m' : Mod} {w w' : World} {base base' : Nat}
theorem ownM_le {size n : Nat} {e : TypeId} {v : Value} {xs : List Value} (h : w.ownsRow base e size v n xs) (hb : base' ≤ base) : w.ownsRow base' e size v n xs := by
  refine ⟨h.1, ?_⟩
  rcases h.2 with h0 | ⟨g, cap, cur, e1, e2, e3⟩
  · exact .inl h0
  · exact .inr ⟨g, cap, cur, e1, Nat.le_trans hb e2, e3⟩
theorem ownM_below {size n : Nat} {e : TypeId} {v : Value} {xs : List Value} (h : w.ownsRow base e size v n xs) (hb : Below w.heap.size w w') : w'.ownsRow base e size v n xs := own_same h fun g _ h2 => hb.block g h2
theorem Mod.own.kp {ts : List TypeId} (h : m.own w base) (hk : Kp ts w w') (h1 : 159 ∉ ts) (h2 : 173 ∉ ts) (h3 : 180 ∉ ts) : m.own w' base := ⟨own_kp h.ex hk h1, own_kp h.im hk h2, own_kp h.pa hk h3⟩
theorem Mod.own.below (h : m.own w base) (hb : Below w.heap.size w w') : m.own w' base := ⟨ownM_below h.ex hb, ownM_below h.im hb, ownM_below h.pa hb⟩
theorem Mod.own.le (h : m.own w base) (hb : base' ≤ base) : m.own w base' := ⟨ownM_le h.ex hb, ownM_le h.im hb, ownM_le h.pa hb⟩
theorem Mod.own.ok (h : m.own w base) (hs : SameC m m') (hk : m'.ok w') : m.ok w := by
  obtain ⟨nm, mj, mn, t, ex, im, pa, eA, eC, iA, iC, pA, pC⟩ := m
  obtain ⟨nm', mj', mn', t', ex', im', pa', eA', eC', iA', iC', pA', pC'⟩ := m'
  obtain ⟨h1, h2, h3, h4, h5, h6, h7⟩ := hs
  simp only at h1 h2 h3 h4 h5 h6 h7
  subst h1 h2 h3 h4 h5 h6 h7
  exact mk_ok h.ex h.im h.pa ⟨hk.ex.2.1, hk.ex.2.2, hk.im.2.1, hk.im.2.2, hk.pa.2, hk.name, hk.text⟩
end

theorem mcells {W : World} {b : Nat} {v0 v1 v2 v3 v4 v5 v6 : Value} {t : TypeId} (h : W.heap[b]? = some (.cells #[v0, v1, v2, v3, v4, v5, v6] t (0, 0))) :
    Hid (W.heap[b]? = some (.cells #[v0, v1, v2, v3, v4, v5, v6] t (0, 0))) ∧ W.cell? ⟨b, 0, none⟩ = some v0 ∧ W.cell? ⟨b, 1, none⟩ = some v1 ∧ W.cell? ⟨b, 2, none⟩ = some v2 ∧ W.cell? ⟨b, 3, none⟩ = some v3 ∧ W.cell? ⟨b, 4, none⟩ = some v4 ∧ W.cell? ⟨b, 5, none⟩ = some v5 ∧ W.cell? ⟨b, 6, none⟩ = some v6 ∧ W.frozen? ⟨b, 4, none⟩ = false ∧ W.frozen? ⟨b, 5, none⟩ = false ∧ W.frozen? ⟨b, 6, none⟩ = false :=
  ⟨Lib.hid h, heap_cell h 0, heap_cell h 1, heap_cell h 2, heap_cell h 3, heap_cell h 4, heap_cell h 5, heap_cell h 6, heap_free h 4, heap_free h 5, heap_free h 6⟩

/-- the world behind the three clones -/
def OwnMid (m : Mod) (w : World) (W : World) : Prop := ∃ (w3 : World) (A1 : Option Addr) (k1 : Nat) (A2 : Option Addr) (k2 : Nat) (A3 : Option Addr) (k3 : Nat),
  W = ((w3.setCell ⟨w.heap.size, 4, none⟩ (.slice A1 m.ex.length k1)).setCell ⟨w.heap.size, 5, none⟩ (.slice A2 m.im.length k2)).setCell ⟨w.heap.size, 6, none⟩ (.slice A3 m.pa.length k3) ∧
  ExpOwn w3 (w.heap.size + 2) (.slice A1 m.ex.length k1) m.ex ∧ ImpOwn w3 (w.heap.size + 2) (.slice A2 m.im.length k2) m.im ∧ PatOwn w3 (w.heap.size + 2) (.slice A3 m.pa.length k3) m.pa ∧ Below w.heap.size w w3 ∧
  w3.heap[w.heap.size]? = some (.cells #[.string m.name, .int .i64 m.major, .int .i64 m.minor, .string m.text, .slice m.eA m.ex.length m.eC, .slice m.iA m.im.length m.iC, .slice m.pA m.pa.length m.pC] 70 (0, 0)) ∧ w3.heap[w.heap.size + 1]? = some (.cells #[.string ⟨#[]⟩, .int .i64 0, .int .i64 0, .string ⟨#[]⟩, .slice none 0 0, .slice none 0 0, .slice none 0 0] 70 (0, 0))

set_option maxHeartbeats 8000000 in
set_option maxRecDepth 100000 in
theorem Own_any (m : Mod) (w : World) (h : m.ok w) (hl : m.ex.length ≤ 1000000 ∧ m.im.length ≤ 1000000 ∧ m.pa.length ≤ 1000000) :
    Calls Tryz.prog 125 #[m.v] w fun e w' => (∃ m', e = .returned m'.v ∧ SameC m' m ∧ m'.own w' w.heap.size) ∧ Below w.heap.size w w' := by
  obtain ⟨w0, hw0⟩ : ∃ w0, w0 = w.alloc (.cells #[.string m.name, .int .i64 m.major, .int .i64 m.minor, .string m.text, .slice m.eA m.ex.length m.eC, .slice m.iA m.im.length m.iC, .slice m.pA m.pa.length m.pC] 70) := ⟨_, rfl⟩
  obtain ⟨x0, hx0⟩ : ∃ x0, x0 = w0.alloc (.cells #[.string ⟨#[]⟩, .int .i64 0, .int .i64 0, .string ⟨#[]⟩, .slice none 0 0, .slice none 0 0, .slice none 0 0] 70) := ⟨_, rfl⟩
  have hB0 : w0.heap[w.heap.size]? = some (.cells #[.string m.name, .int .i64 m.major, .int .i64 m.minor, .string m.text, .slice m.eA m.ex.length m.eC, .slice m.iA m.im.length m.iC, .slice m.pA m.pa.length m.pC] 70 (0, 0)) := by rw [hw0]; exact heap_alloc_new w _
  have hz0 : w0.heap.size = w.heap.size + 1 := by rw [hw0]; simp
  have hB : x0.heap[w.heap.size]? = some (.cells #[.string m.name, .int .i64 m.major, .int .i64 m.minor, .string m.text, .slice m.eA m.ex.length m.eC, .slice m.iA m.im.length m.iC, .slice m.pA m.pa.length m.pC] 70 (0, 0)) := by rw [hx0, heap_alloc_old w0 _ (by omega)]; exact hB0
  have hR : x0.heap[w.heap.size + 1]? = some (.cells #[.string ⟨#[]⟩, .int .i64 0, .int .i64 0, .string ⟨#[]⟩, .slice none 0 0, .slice none 0 0, .slice none 0 0] 70 (0, 0)) := by rw [hx0, ← hz0]; exact heap_alloc_new w0 _
  have hz : x0.heap.size = w.heap.size + 2 := by rw [hx0]; simp; omega
  have hb0 : Below w.heap.size w x0 := by rw [hx0, hw0]; exact ((Below.refl _ _).alloc (Nat.le_refl _) _).alloc (by simp) _
  have H0 := Lib.hid hb0
  have HB := Lib.hid hB
  have HR := Lib.hid hR
  have HZ := Lib.hid hz
  have c1 := Lib.hid (fun W (hb : Below w.heap.size w W) => CloneExp_any m.eA m.eC m.ex W (h.ex.1.below hb) hl.1)
  have c2 := Lib.hid (fun W (hb : Below w.heap.size w W) => CloneImp_any m.iA m.iC m.im W (h.im.1.below hb) hl.2.1)
  have c3 := Lib.hid (fun W (hb : Below w.heap.size w W) => ClonePat_any m.pA m.pC m.pa W (h.pa.1.below hb) hl.2.2)
  have hw0' := hw0.symm
  have hx0' := hx0.symm
  have a4 := heap_cell hB 4
  have a5 := heap_cell hB 5
  have a6 := heap_cell hB 6
  simp only [List.getElem?_toArray, List.getElem?_cons_zero, List.getElem?_cons_succ] at a4 a5 a6
  clear hw0 hx0 hB0 hB hR hz hb0 h hl
  go_enter Tryz.func125, Tryz.ntmps125
  go_upto_region 1 with fail
  go_cut [3] from 4 to 14 (fun _ wx => OwnMid m w wx)
  case first =>
   go_region_with (first
    | (go_at_call 152; (with_reducible refine (c1.out _ H0.out.drew).mono ?_); rintro e w1 ⟨⟨A1, k1, rfl, ho1⟩, hb1⟩
       have HO1 := Lib.hid ho1
       have HK1 := Lib.hid hb1
       have HB1 := Lib.hid (H0.out.drew.trans (hb1.mono (by have := HZ.out; simp; omega)))
       obtain ⟨HC1, _, _, _, _, _, b5, b6, _, _, _⟩ := mcells ((hb1.block w.heap.size (by have := HZ.out; simp; omega)).trans HB.out)
       clear ho1 hb1)
    | (go_at_call 193; (with_reducible refine (c2.out _ HB1.out).mono ?_); rintro e w2 ⟨⟨A2, k2, rfl, ho2⟩, hb2⟩
       have HO2 := Lib.hid ho2
       have HK2 := Lib.hid hb2
       have HB2 := Lib.hid (HB1.out.trans (hb2.mono HB1.out.size))
       obtain ⟨HC2, _, _, _, _, _, _, d6, _, _, _⟩ := mcells ((hb2.block w.heap.size (Array.getElem?_eq_some_iff.1 HC1.out).1).trans HC1.out)
       clear ho2 hb2)
    | (go_at_call 194; (with_reducible refine (c3.out _ HB2.out).mono ?_); rintro e w3 ⟨⟨A3, k3, rfl, ho3⟩, hb3⟩
       have HO3 := Lib.hid ho3
       have HK3 := Lib.hid hb3
       obtain ⟨HC3, _, _, _, _, e4, e5, e6, j4, j5, j6⟩ := mcells ((hb3.block w.heap.size (Array.getElem?_eq_some_iff.1 HC2.out).1).trans HC2.out)
       have HB3 := Lib.hid (HB2.out.trans (hb3.mono HB2.out.size))
       have HMID := Lib.hid (show OwnMid m w (((w3.setCell ⟨w.heap.size, 4, none⟩ (.slice A1 m.ex.length k1)).setCell ⟨w.heap.size, 5, none⟩ (.slice A2 m.im.length k2)).setCell ⟨w.heap.size, 6, none⟩ (.slice A3 m.pa.length k3)) from
         ⟨w3, A1, k1, A2, k2, A3, k3, rfl, ownM_le (ownM_below (ownM_below HO1.out HK2.out) HK3.out) (Nat.le_of_eq HZ.out.symm), ownM_le (ownM_below HO2.out HK3.out) (Nat.le_trans (Nat.le_of_eq HZ.out.symm) HK1.out.size), ownM_le HO3.out (Nat.le_trans (Nat.le_of_eq HZ.out.symm) (Nat.le_trans HK1.out.size HK2.out.size)), HB3.out, HC3.out,
           (HK3.out.block _ (Nat.lt_of_lt_of_le (Array.getElem?_eq_some_iff.1 HR.out).1 (Nat.le_trans HK1.out.size HK2.out.size))).trans ((HK2.out.block _ (Nat.lt_of_lt_of_le (Array.getElem?_eq_some_iff.1 HR.out).1 HK1.out.size)).trans ((HK1.out.block _ (Array.getElem?_eq_some_iff.1 HR.out).1).trans HR.out))⟩)
       clear ho3 hb3))
   all_goals (
     have hm : OwnMid m w (((w3.setCell ⟨w.heap.size, 4, none⟩ (.slice A1 m.ex.length k1)).setCell ⟨w.heap.size, 5, none⟩ (.slice A2 m.im.length k2)).setCell ⟨w.heap.size, 6, none⟩ (.slice A3 m.pa.length k3)) := HMID.out
     clear b5 b6 d6 e4 e5 e6 j4 j5 j6 a4 a5 a6
     go_wp2_with fail
     go_meet
     exact hm)
  case rest =>
    obtain ⟨w3, A1, k1, A2, k2, A3, k3, rfl, h1, h2, h3, hb, hB, hR⟩ := hcut
    have HB3 := Lib.hid hb
    have H1 := Lib.hid h1
    have H2 := Lib.hid h2
    have H3 := Lib.hid h3
    obtain ⟨HCB, e0, e1, e2, e3, e4, e5, e6, j4, j5, j6⟩ := mcells hB
    obtain ⟨HCR, r0, r1, r2, r3, r4, r5, r6, q4, q5, q6⟩ := mcells hR
    have q0 := heap_free hR 0
    have q1 := heap_free hR 1
    have q2 := heap_free hR 2
    have q3 := heap_free hR 3
    have hs3 : w.heap.size + 2 ≤ w3.heap.size := by have := (Array.getElem?_eq_some_iff.1 hR).1; omega
    clear h1 h2 h3 hb hB hR a4 a5 a6 c1 c2 c3 hw0' hx0'
    go_wp2_with fail
    obtain ⟨W, hW⟩ : ∃ W, W = ((w3.setCell ⟨w.heap.size, 4, none⟩ (.slice A1 m.ex.length k1)).setCell ⟨w.heap.size, 5, none⟩ (.slice A2 m.im.length k2)).setCell ⟨w.heap.size, 6, none⟩ (.slice A3 m.pa.length k3) := ⟨_, rfl⟩
    have ho1 : Only w.heap.size w3 W := hW ▸ ((Only.set 4 _).trans (Only.set 5 _)).trans (Only.set 6 _)
    rw [← hW]
    obtain ⟨hg, ho⟩ := set7 ((ho1.block (w.heap.size + 1) (by omega) (by omega)).trans HCR.out) (.string m.name) (.int .i64 m.major) (.int .i64 m.minor) (.string m.text) (.slice A1 m.ex.length k1) (.slice A2 m.im.length k2) (.slice A3 m.pa.length k3)
    refine bodyPost_ret (results_cell_row rfl _ _ (w.heap.size + 1) 70 _ (0, 0) _ rfl hg Tryz.underlying70 rfl Tryz.sizeMod) rfl ?_
    have hk : ∀ g, w.heap.size + 2 ≤ g → g < w3.heap.size → _ = w3.heap[g]? := fun g h1 h2 => (ho.block g (Nat.lt_of_lt_of_le h2 ho1.size) (by omega)).trans (ho1.block g h2 (by omega))
    refine ⟨⟨⟨m.name, m.major, m.minor, m.text, m.ex, m.im, m.pa, A1, k1, A2, k2, A3, k3⟩, rfl, ⟨rfl, rfl, rfl, rfl, rfl, rfl, rfl⟩, ⟨ownM_le (own_same H1.out hk) (by omega), ownM_le (own_same H2.out hk) (by omega), ownM_le (own_same H3.out hk) (by omega)⟩⟩, (HB3.out.trans (ho1.below (by omega))).trans ((ho.below (by have := ho1.size; omega)).mono (by omega))⟩

end Go.Proofs.YtjiedaialianmaaGreat
end
