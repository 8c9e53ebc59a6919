import Derived.Test.YtdpacbdejfjkcaaReadW
import Derived.Maps.AppendAt
import Derived.Deep.AppendLies
import Derived.OwnWalk
import Derived.RangeFuncBox
/- The closures of module.Decode: an export, an import, a patch more (chapter B). Printed by genDecW.py. -/
namespace Go.Proofs.Ytdpacbdejfjkcaa
open Go.RowKit

/-- blocks of other types than these stand as they stood -/
def Kp (ts : List TypeId) (w w' : World) : Prop := ∀ (k : Nat) (cs : Array Value) (t : TypeId) (fr : Nat × Nat), w.heap[k]? = some (.cells cs t fr) → t ∉ ts → w'.heap[k]? = some (.cells cs t fr)
theorem Kp.refl (ts : List TypeId) (w : World) : Kp ts w w := fun _ _ _ _ h _ => h
theorem Kp.trans {ts : List TypeId} {a b c : World} (h : Kp ts a b) (k : Kp ts b c) : Kp ts a c := fun i cs t fr hi ht => k i cs t fr (h i cs t fr hi ht) ht
theorem Kp.alloc {ts : List TypeId} {a b : World} (h : Kp ts a b) (o : Obj) : Kp ts a (b.alloc o) := fun i cs t fr hi ht =>
  (heap_alloc_old b o (Array.getElem?_eq_some_iff.1 (h i cs t fr hi ht)).1).trans (h i cs t fr hi ht)
theorem Only.kp {B : Nat} {w w' : World} {cs : Array Value} {t : TypeId} {fr : Nat × Nat} (h : Only B w w') (hB : w.heap[B]? = some (.cells cs t fr)) {ts : List TypeId} (ht : t ∈ ts) : Kp ts w w' := fun i cs' t' fr' hi ht' => by
  by_cases e : i = B
  · subst e; rw [hB] at hi; injection hi with hi; injection hi with _ h2 _; subst h2; exact absurd ht ht'
  · exact (h.block i (Array.getElem?_eq_some_iff.1 hi).1 e).trans hi
theorem Kp.set {ts : List TypeId} {w : World} {b : Nat} {cs : Array Value} {t : TypeId} {fr : Nat × Nat} (hb : w.heap[b]? = some (.cells cs t fr)) (ht : t ∈ ts) (o : Nat) (v : Value) : Kp ts w (w.setCell ⟨b, o, none⟩ v) :=
  (Only.set o v).kp hb ht
theorem Kp.grown {ts : List TypeId} {w w' : World} {row : Option Nat} (hg : w.grownBy w' row) (hr : ∀ g, row = some g → ∃ cs t fr, w.heap[g]? = some (.cells cs t fr) ∧ t ∈ ts) : Kp ts w w' := fun i cs t fr hi ht => by
  refine (hg.block i (Array.getElem?_eq_some_iff.1 hi).1 fun e => ?_).trans hi
  obtain ⟨cs', t', fr', h1, h2⟩ := hr i e.symm
  rw [hi] at h1; injection h1 with h1; injection h1 with _ h3 _; subst h3; exact ht h2
theorem own_kp {ts : List TypeId} {w w' : World} {base size n : Nat} {e : TypeId} {v : Value} {xs : List Value} (h : w.ownsRow base e size v n xs) (hk : Kp ts w w') (he : e ∉ ts) : w'.ownsRow base e size v n xs := by
  refine ⟨h.1, ?_⟩
  rcases h.2 with h0 | ⟨g, cap, cur, e1, e2, e3, e4⟩
  · exact .inl h0
  · exact .inr ⟨g, cap, cur, e1, e2, hk g _ _ _ e3 he, e4⟩
theorem own_kind {w : World} {base size n : Nat} {e : TypeId} {v : Value} {xs : List Value} (h : w.ownsRow base e size v n xs) : ∀ g, v.ownBlock = some g → ∃ c fz, w.heap[g]? = some (.cells c e fz) := by
  intro g hg
  rcases h.2 with ⟨rfl, _⟩ | ⟨g', cap, cur, rfl, _, hgg, _⟩
  · simp [Value.ownBlock] at hg
  · simp [Value.ownBlock] at hg
    subst hg
    exact ⟨cur, _, hgg⟩
theorem heap_cell {w : World} {b : Nat} {cs : Array Value} {t : TypeId} {fr : Nat × Nat} (h : w.heap[b]? = some (.cells cs t fr)) (o : Nat) : w.cell? ⟨b, o, none⟩ = cs[o]? := by simp [World.cell?, h]
theorem heap_free {w : World} {b : Nat} {cs : Array Value} {t : TypeId} (h : w.heap[b]? = some (.cells cs t (0, 0))) (o : Nat) : w.frozen? ⟨b, o, none⟩ = false := by simp [World.frozen?, h]
/-- block bM holds a module in the making -/
def MB (W : World) (bM : Nat) (nm : ByteArray) (mj mn : Int) (tx : ByteArray) (vE vI vP : Value) : Prop := W.heap[bM]? = some (.cells #[.string nm, .int .i64 mj, .int .i64 mn, .string tx, vE, vI, vP] 26 (0, 0))
theorem Kp.mono {ts ts' : List TypeId} {w w' : World} (h : Kp ts w w') (hs : ∀ t ∈ ts, t ∈ ts') : Kp ts' w w' := fun k cs t fr hk ht => h k cs t fr hk (fun e => ht (hs t e))
theorem heap_ne {w : World} {a b : Nat} {cs cs' : Array Value} {t t' : TypeId} {fr fr' : Nat × Nat} (h : w.heap[a]? = some (.cells cs t fr)) (h' : w.heap[b]? = some (.cells cs' t' fr')) (ht : t ≠ t') : a ≠ b := fun e => by
  subst e; rw [h] at h'; injection h' with h'; injection h' with _ h2 _; exact ht h2
theorem Rd.kp {ts : List TypeId} {B : Nat} {st : Rest} {w w' : World} (h : Rd B st w) (hk : Kp ts w w') (ht : 86 ∉ ts) : Rd B st w' := hk _ _ _ _ h ht
theorem box_kp {ts : List TypeId} {b : Nat} {t : TypeId} {v : Value} {w w' : World} (h : Boxed w b t v) (hk : Kp ts w w') (ht : t ∉ ts) : Boxed w' b t v := hk _ _ _ _ h ht

theorem Try.infoExp : (Try.prog.info? 91).map (fun i => (i.zero, i.size, i.bytes)) = some (some (.agg #[.string ⟨#[]⟩, .int .i64 0]), 2, 24) := by kernel_rfl
/-- a slice of them that lies in blocks of the call's own, from block base on -/
def ExpOwn (w : World) (base : Nat) (v : Value) (l : List Exp) : Prop := w.ownsRow base 91 2 v l.length (l.flatMap Exp.cells)
theorem ExpOwn.row {w : World} {base : Nat} {v : Value} {l : List Exp} (h : ExpOwn w base v l) : ∃ (A : Option Addr) (c : Nat), v = .slice A l.length c ∧ Row Exp.cells 2 w A l := by
  rcases h.2 with ⟨rfl, h0⟩ | ⟨g', cap, cur, rfl, _⟩
  · exact ⟨none, 0, by rw [h0], ⟨flat_length (enc := Exp.cells) (k := 2) (fun _ => rfl) _, fun hn => by omega⟩⟩
  · exact ⟨_, _, rfl, Reads.of_own h⟩
theorem ExpOwn.nil (w : World) (base : Nat) : ExpOwn w base (.slice none 0 0) [] := World.ownsRow_nil _ _ _ _
theorem append_Exp (W : World) {ops : Array Oper} {rest : List Oper} {o : Oper} {a : Act} {Q : Exit → Act → World → Prop} (hgd : o.guard = none) (s y : Operand)
    (ho : o.op = .call { callee := .builtin .append, args := #[s, y], argTypes := #[22, 22] }) (base : Nat) (v : Value) (l : List Exp) (x : Exp) (hs : a.eval s = v)
    (hx : a.eval y = .slice (some ⟨W.heap.size, 0, none⟩) 1 1) (hown : ExpOwn W base v l) (hl : l.length ≤ 1000000) (hbase : base ≤ W.heap.size)
    (h : ∀ v' w', ExpOwn w' base v' (l ++ [x]) → (W.alloc (.cells #[.string x.name, .int .i64 x.at_] 91)).grownBy w' v.ownBlock → wpList Try.prog ops Q rest (a.put o.dst v') w') : wpList Try.prog ops Q (o :: rest) a (W.alloc (.cells #[.string x.name, .int .i64 x.at_] 91)) := by
  obtain ⟨i0, hi, hz0, hz1, hz2⟩ := info_parts Try.infoExp
  refine wpList_append_own_at (W.alloc (.cells #[.string x.name, .int .i64 x.at_] 91)) hgd s y 22 ho base 91 i0 (.agg #[.string ⟨#[]⟩, .int .i64 0]) 2 24 Try.underlying22 hi hz0 hz1 hz2 rfl (by decide) v l.length (l.flatMap Exp.cells) hs (hown.alloc _) ⟨W.heap.size, 0, none⟩ 1 1 x.cells hx rfl
    ?_ (by intro u hu; simp only [Exp.cells, List.mem_cons, List.not_mem_nil, or_false] at hu; rcases hu with rfl | rfl <;> rfl) (by simp only [maxLen]; omega) (by omega) (by simp; omega) ?_
  · intro j u hu
    match j, hu with
    | 0, hu => simp only [Exp.cells, List.getElem?_cons_zero, Option.some.injEq] at hu; subst hu; rw [add_zero_, World.cell?_alloc_new]; rfl
    | 1, hu => simp only [Exp.cells, List.getElem?_cons_succ, List.getElem?_cons_zero, Option.some.injEq] at hu; subst hu; rw [add_pos_ _ _ (by omega)]; simp only [Nat.zero_add]; rw [World.cell?_alloc_new]; rfl
    | j + 2, hu => simp [Exp.cells] at hu
  intro v' w1 hown' hgrow _ _
  refine h v' w1 ?_ hgrow
  unfold ExpOwn
  simpa using hown'

theorem Try.infoImp : (Try.prog.info? 52).map (fun i => (i.zero, i.size, i.bytes)) = some (some (.agg #[.string ⟨#[]⟩, .string ⟨#[]⟩, .int .i64 0, .int .i64 0]), 4, 48) := by kernel_rfl
/-- a slice of them that lies in blocks of the call's own, from block base on -/
def ImpOwn (w : World) (base : Nat) (v : Value) (l : List Imp) : Prop := w.ownsRow base 52 4 v l.length (l.flatMap Imp.cells)
theorem ImpOwn.row {w : World} {base : Nat} {v : Value} {l : List Imp} (h : ImpOwn w base v l) : ∃ (A : Option Addr) (c : Nat), v = .slice A l.length c ∧ Row Imp.cells 4 w A l := by
  rcases h.2 with ⟨rfl, h0⟩ | ⟨g', cap, cur, rfl, _⟩
  · exact ⟨none, 0, by rw [h0], ⟨flat_length (enc := Imp.cells) (k := 4) (fun _ => rfl) _, fun hn => by omega⟩⟩
  · exact ⟨_, _, rfl, Reads.of_own h⟩
theorem ImpOwn.nil (w : World) (base : Nat) : ImpOwn w base (.slice none 0 0) [] := World.ownsRow_nil _ _ _ _
theorem append_Imp (W : World) {ops : Array Oper} {rest : List Oper} {o : Oper} {a : Act} {Q : Exit → Act → World → Prop} (hgd : o.guard = none) (s y : Operand)
    (ho : o.op = .call { callee := .builtin .append, args := #[s, y], argTypes := #[23, 23] }) (base : Nat) (v : Value) (l : List Imp) (x : Imp) (hs : a.eval s = v)
    (hx : a.eval y = .slice (some ⟨W.heap.size, 0, none⟩) 1 1) (hown : ImpOwn W base v l) (hl : l.length ≤ 1000000) (hbase : base ≤ W.heap.size)
    (h : ∀ v' w', ImpOwn w' base v' (l ++ [x]) → (W.alloc (.cells #[.string x.mod, .string x.name, .int .i64 x.major, .int .i64 x.minor] 52)).grownBy w' v.ownBlock → wpList Try.prog ops Q rest (a.put o.dst v') w') : wpList Try.prog ops Q (o :: rest) a (W.alloc (.cells #[.string x.mod, .string x.name, .int .i64 x.major, .int .i64 x.minor] 52)) := by
  obtain ⟨i0, hi, hz0, hz1, hz2⟩ := info_parts Try.infoImp
  refine wpList_append_own_at (W.alloc (.cells #[.string x.mod, .string x.name, .int .i64 x.major, .int .i64 x.minor] 52)) hgd s y 23 ho base 52 i0 (.agg #[.string ⟨#[]⟩, .string ⟨#[]⟩, .int .i64 0, .int .i64 0]) 4 48 Try.underlying23 hi hz0 hz1 hz2 rfl (by decide) v l.length (l.flatMap Imp.cells) hs (hown.alloc _) ⟨W.heap.size, 0, none⟩ 1 1 x.cells hx rfl
    ?_ (by intro u hu; simp only [Imp.cells, List.mem_cons, List.not_mem_nil, or_false] at hu; rcases hu with rfl | rfl | rfl | rfl <;> rfl) (by simp only [maxLen]; omega) (by omega) (by simp; omega) ?_
  · intro j u hu
    match j, hu with
    | 0, hu => simp only [Imp.cells, List.getElem?_cons_zero, Option.some.injEq] at hu; subst hu; rw [add_zero_, World.cell?_alloc_new]; rfl
    | 1, hu => simp only [Imp.cells, List.getElem?_cons_succ, List.getElem?_cons_zero, Option.some.injEq] at hu; subst hu; rw [add_pos_ _ _ (by omega)]; simp only [Nat.zero_add]; rw [World.cell?_alloc_new]; rfl
    | 2, hu => simp only [Imp.cells, List.getElem?_cons_succ, List.getElem?_cons_zero, Option.some.injEq] at hu; subst hu; rw [add_pos_ _ _ (by omega)]; simp only [Nat.zero_add]; rw [World.cell?_alloc_new]; rfl
    | 3, hu => simp only [Imp.cells, List.getElem?_cons_succ, List.getElem?_cons_zero, Option.some.injEq] at hu; subst hu; rw [add_pos_ _ _ (by omega)]; simp only [Nat.zero_add]; rw [World.cell?_alloc_new]; rfl
    | j + 4, hu => simp [Imp.cells] at hu
  intro v' w1 hown' hgrow _ _
  refine h v' w1 ?_ hgrow
  unfold ImpOwn
  simpa using hown'

theorem Try.infoPat : (Try.prog.info? 75).map (fun i => (i.zero, i.size, i.bytes)) = some (some (.agg #[.int .i64 0, .int .i64 0, .int .i64 0, .int .i64 0]), 4, 32) := by kernel_rfl
/-- a slice of them that lies in blocks of the call's own, from block base on -/
def PatOwn (w : World) (base : Nat) (v : Value) (l : List Pat) : Prop := w.ownsRow base 75 4 v l.length (l.flatMap Pat.cells)
theorem PatOwn.row {w : World} {base : Nat} {v : Value} {l : List Pat} (h : PatOwn w base v l) : ∃ (A : Option Addr) (c : Nat), v = .slice A l.length c ∧ Row Pat.cells 4 w A l := by
  rcases h.2 with ⟨rfl, h0⟩ | ⟨g', cap, cur, rfl, _⟩
  · exact ⟨none, 0, by rw [h0], ⟨flat_length (enc := Pat.cells) (k := 4) (fun _ => rfl) _, fun hn => by omega⟩⟩
  · exact ⟨_, _, rfl, Reads.of_own h⟩
theorem PatOwn.nil (w : World) (base : Nat) : PatOwn w base (.slice none 0 0) [] := World.ownsRow_nil _ _ _ _
theorem append_Pat (W : World) {ops : Array Oper} {rest : List Oper} {o : Oper} {a : Act} {Q : Exit → Act → World → Prop} (hgd : o.guard = none) (s y : Operand)
    (ho : o.op = .call { callee := .builtin .append, args := #[s, y], argTypes := #[24, 24] }) (base : Nat) (v : Value) (l : List Pat) (x : Pat) (hs : a.eval s = v)
    (hx : a.eval y = .slice (some ⟨W.heap.size, 0, none⟩) 1 1) (hown : PatOwn W base v l) (hl : l.length ≤ 1000000) (hbase : base ≤ W.heap.size)
    (h : ∀ v' w', PatOwn w' base v' (l ++ [x]) → (W.alloc (.cells #[.int .i64 x.kind, .int .i64 x.at_, .int .i64 x.sym, .int .i64 x.add] 75)).grownBy w' v.ownBlock → wpList Try.prog ops Q rest (a.put o.dst v') w') : wpList Try.prog ops Q (o :: rest) a (W.alloc (.cells #[.int .i64 x.kind, .int .i64 x.at_, .int .i64 x.sym, .int .i64 x.add] 75)) := by
  obtain ⟨i0, hi, hz0, hz1, hz2⟩ := info_parts Try.infoPat
  refine wpList_append_own_at (W.alloc (.cells #[.int .i64 x.kind, .int .i64 x.at_, .int .i64 x.sym, .int .i64 x.add] 75)) hgd s y 24 ho base 75 i0 (.agg #[.int .i64 0, .int .i64 0, .int .i64 0, .int .i64 0]) 4 32 Try.underlying24 hi hz0 hz1 hz2 rfl (by decide) v l.length (l.flatMap Pat.cells) hs (hown.alloc _) ⟨W.heap.size, 0, none⟩ 1 1 x.cells hx rfl
    ?_ (by intro u hu; simp only [Pat.cells, List.mem_cons, List.not_mem_nil, or_false] at hu; rcases hu with rfl | rfl | rfl | rfl <;> rfl) (by simp only [maxLen]; omega) (by omega) (by simp; omega) ?_
  · intro j u hu
    match j, hu with
    | 0, hu => simp only [Pat.cells, List.getElem?_cons_zero, Option.some.injEq] at hu; subst hu; rw [add_zero_, World.cell?_alloc_new]; rfl
    | 1, hu => simp only [Pat.cells, List.getElem?_cons_succ, List.getElem?_cons_zero, Option.some.injEq] at hu; subst hu; rw [add_pos_ _ _ (by omega)]; simp only [Nat.zero_add]; rw [World.cell?_alloc_new]; rfl
    | 2, hu => simp only [Pat.cells, List.getElem?_cons_succ, List.getElem?_cons_zero, Option.some.injEq] at hu; subst hu; rw [add_pos_ _ _ (by omega)]; simp only [Nat.zero_add]; rw [World.cell?_alloc_new]; rfl
    | 3, hu => simp only [Pat.cells, List.getElem?_cons_succ, List.getElem?_cons_zero, Option.some.injEq] at hu; subst hu; rw [add_pos_ _ _ (by omega)]; simp only [Nat.zero_add]; rw [World.cell?_alloc_new]; rfl
    | j + 4, hu => simp [Pat.cells] at hu
  intro v' w1 hown' hgrow _ _
  refine h v' w1 ?_ hgrow
  unfold PatOwn
  simpa using hown'

set_option maxHeartbeats 4000000 in
set_option maxRecDepth 100000 in
theorem dec1_any (B bR bM base : Nat) (st : Rest) (nm tx : ByteArray) (mj mn : Int) (vE vI vP : Value) (es : List Exp) (w : World) (hR : Rd B st w) (hB : Boxed w bR 84 (.pointer (some ⟨B, 0, none⟩))) (hM : MB w bM nm mj mn tx vE vI vP) (hE : ExpOwn w base vE es)
    (hl : (left st).length ≤ big) (hes : es.length ≤ 1000) (hb1 : B < base) (hb2 : bM < base) (hbw : base ≤ w.heap.size) :
    Calls Try.prog 64 #[.pointer (some ⟨bR, 0, none⟩), .pointer (some ⟨bM, 0, none⟩)] w fun e w' => (∃ u, e = .returned u) ∧
      Rd B (decExp st).2 w' ∧ Kp [86, 26, 91] w w' ∧ w.heap.size ≤ w'.heap.size ∧ (∀ k, k < base → k ≠ B → k ≠ bM → w'.heap[k]? = w.heap[k]?) ∧ (w'.os = w.os ∧ w'.tape = w.tape ∧ w'.output = w.output) ∧ ∃ v', MB w' bM nm mj mn tx v' vI vP ∧ ExpOwn w' base v' (es ++ [(decExp st).1]) := by
  have hl0 := hl
  have c0 := Lib.hid (fun W hW => rname_any B st W hW hl0)
  have hl1 : (left (nam st).2).length ≤ big := left_le _ (left_le 1 hl0)
  have c1 := Lib.hid (fun W hW => number_any B (nam st).2 2 W hW hl1 (by omega) (by omega))
  change Hid (∀ W, _ → Calls _ _ #[_, .int .i64 2] W _) at c1
  have hl2 : (left (numb 2 (nam st).2).2).length ≤ big := left_le 2 hl1
  have hx : decExp st = (⟨sof (nam st).1, (numb 2 (nam st).2).1⟩, (numb 2 (nam st).2).2) := rfl
  rw [hx]
  obtain ⟨a1, ha1⟩ : ∃ a, a = (numb 2 (nam st).2).1 := ⟨_, rfl⟩
  rw [← ha1] at c1 ⊢
  obtain ⟨st2, hst2⟩ : ∃ s, s = (numb 2 (nam st).2).2 := ⟨_, rfl⟩
  rw [← hst2] at c1 ⊢
  obtain ⟨a0, ha0⟩ : ∃ a, a = sof (nam st).1 := ⟨_, rfl⟩
  rw [← ha0] at c0 ⊢
  obtain ⟨st1, hst1⟩ : ∃ s, s = (nam st).2 := ⟨_, rfl⟩
  rw [← hst1] at c0 c1
  have HB := Lib.hid hB
  have HM := Lib.hid hM
  have HE := Lib.hid hE
  have hbR := hB.lt
  have HR := Lib.hid hR
  have qw := hB.cell
  have hBM : B ≠ bM := heap_ne (show w.heap[B]? = _ from hR) (show w.heap[bM]? = _ from hM) (by decide)
  clear hx hl hR hB hM hE ha0 hst1 hl0 ha1 hst2 hl1 hl2
  go_enter Try.func64, Try.ntmps64
  go_wp2_with fail
  refine (c0.out _ HR.out).mono ?_
  rintro e u0 ⟨rfl, h0, ho0⟩
  have k0 := Lib.hid (ho0.kp HR.out (ts := [86]) (by simp))
  have z0 := ho0.size
  have L0 := Lib.hid (fun k (hk : k < base) (h1 : k ≠ B) => ho0.block k (by omega) h1)
  obtain ⟨v0, hv0⟩ : ∃ v, v = u0.alloc (.cells #[.string a0, .int .i64 0] 91) := ⟨_, rfl⟩
  have HV0 := Lib.hid hv0.symm
  have b0 : ∀ k, k < u0.heap.size → v0.heap[k]? = u0.heap[k]? := fun k hk => hv0 ▸ heap_alloc_old u0 _ hk
  have X0 := Lib.hid (show v0.heap[u0.heap.size]? = some (.cells #[.string a0, .int .i64 0] 91 (0, 0)) from hv0 ▸ heap_alloc_new _ _)
  have K0 := Lib.hid (show Kp [86, 91] w v0 from hv0 ▸ ((k0.out.alloc _).mono (by simp)))
  have R0 := Lib.hid (show Rd B st1 v0 from (b0 B h0.lt).trans h0)
  have O0 := Lib.hid (show v0.os = w.os ∧ v0.tape = w.tape ∧ v0.output = w.output from hv0 ▸ ⟨ho0.os, ho0.tape, ho0.output⟩)
  have N0 := Lib.hid (fun k (hk : k < base) (h1 : k ≠ B) => (b0 k (by omega)).trans (L0.out k hk h1))
  have qu := (box_kp HB.out k0.out (by decide)).cell
  have q0v := (box_kp HB.out K0.out (by decide)).cell
  have M0 := Lib.hid (show MB v0 bM nm mj mn tx vE vI vP from K0.out _ _ _ _ HM.out (by decide))
  have E0 := Lib.hid (show ExpOwn v0 base vE es from (hv0 ▸ ((own_kp HE.out k0.out (by decide)).alloc _)))
  have hEne : vE.ownBlock ≠ some u0.heap.size := fun h => by
    have := (own_kp HE.out k0.out (by decide)).lt _ h
    omega
  have HEN := Lib.hid hEne
  have y0z : u0.heap.size < v0.heap.size := (Array.getElem?_eq_some_iff.1 X0.out).1
  have hbR2 : bR < u0.heap.size := by omega
  have hbx : base ≤ u0.heap.size := by omega
  clear h0 ho0 hv0 b0 qw hEne q0v
  go_wp2_with fail
  rw [HV0.out]
  refine (c1.out _ R0.out).mono ?_
  rintro e u1 ⟨rfl, h1, ho1⟩
  have k1 := Lib.hid (ho1.kp R0.out (ts := [86]) (by simp))
  have z1 := ho1.size
  have XU1 := Lib.hid (k1.out _ _ _ _ X0.out (by decide))
  have EU1 := Lib.hid (show ExpOwn u1 base vE es from own_kp E0.out k1.out (by decide))
  have p0_1 := heap_cell XU1.out 1
  have p1_1 := heap_free XU1.out 1
  simp only [List.getElem?_toArray, List.getElem?_cons_succ, List.getElem?_cons_zero] at p0_1
  obtain ⟨v1, hv1⟩ : ∃ v, v = u1.setCell ⟨u0.heap.size, 1, none⟩ (.int .i64 a1) := ⟨_, rfl⟩
  have hv1' := hv1.symm
  have zz1 : v1.heap.size = u1.heap.size := by subst hv1; simp
  have s1 : ∀ k, k ≠ u0.heap.size → v1.heap[k]? = u1.heap[k]? := fun k hk => by rw [hv1]; exact Below.heap_setCell _ _ _ _ hk
  have X1 := Lib.hid (show v1.heap[u0.heap.size]? = some (.cells #[.string a0, .int .i64 a1] 91 (0, 0)) from by rw [hv1, heap_setCell_same u1 _ 1 _ _ _ XU1.out]; rfl)
  have KK1 : Kp [86, 91] u1 v1 := hv1 ▸ Kp.set XU1.out (by simp) 1 _
  have K1 := Lib.hid (show Kp [86, 91] w v1 from (K0.out.trans (k1.out.mono (by simp))).trans KK1)
  have R1 := Lib.hid (show Rd B st2 v1 from (s1 B (by omega)).trans h1)
  have M1 := Lib.hid (show MB v1 bM nm mj mn tx vE vI vP from K1.out _ _ _ _ HM.out (by decide))
  have E1 := Lib.hid (show ExpOwn v1 base vE es from hv1 ▸ ownsRow_setCell_other EU1.out HEN.out _)
  have N1 := Lib.hid (fun k (hk : k < base) (h1 : k ≠ B) => (s1 k (by omega)).trans ((ho1.block k (by omega) h1).trans (N0.out k hk h1)))
  have O1 := Lib.hid (show v1.os = w.os ∧ v1.tape = w.tape ∧ v1.output = w.output from hv1 ▸ ⟨ho1.os.trans O0.out.1, ho1.tape.trans O0.out.2.1, ho1.output.trans O0.out.2.2⟩)
  have qv1 := (box_kp HB.out K1.out (by decide)).cell
  have y1z : u0.heap.size < v1.heap.size := by omega
  clear h1 ho1 hv1 s1 zz1 KK1
  have m4 := heap_cell (show v1.heap[bM]? = _ from M1.out) 4
  have x0 := heap_cell X1.out 0
  have x1 := heap_cell X1.out 1
  simp only [List.getElem?_toArray, List.getElem?_cons_succ, List.getElem?_cons_zero] at m4 x0 x1
  have hb5 : base ≤ v1.heap.size := by omega
  have Z5 := Lib.hid (show w.heap.size ≤ v1.heap.size by omega)
  go_wp2_with (at_builtin; refine append_Exp v1 rfl _ _ rfl base vE es ⟨a0, a1⟩ rfl rfl E1.out (by omega) (by omega) ?_; intro v' w7 hown7 hg7; have HOWN := Lib.hid hown7; obtain ⟨g, cap, rfl⟩ := ownsRow_succ (show w7.ownsRow base _ 2 v' (es.length + 1) _ by have h := hown7; unfold ExpOwn at h; simpa using h); have HG := Lib.hid hg7; have hne : some bM ≠ vE.ownBlock := (fun h => by have := (E1.out.lt bM h.symm).1; omega); have M7 := Lib.hid (show MB w7 bM nm mj mn tx vE vI vP from (hg7.block bM (by simp; omega) hne).trans ((heap_alloc_old v1 _ (by omega)).trans M1.out)); have p7 := heap_cell (show w7.heap[bM]? = _ from M7.out) 4; have f7 := heap_free (show w7.heap[bM]? = _ from M7.out) 4; simp only [List.getElem?_toArray, List.getElem?_cons_succ, List.getElem?_cons_zero] at p7; clear hown7 hg7 hne)
  go_end0
  have K7 := Lib.hid (show Kp [86, 26, 91] w w7 from ((K1.out.alloc _).trans (Kp.grown (ts := [86, 91]) HG.out (fun g hg => by
    obtain ⟨c', fz, h⟩ := own_kind (E1.out.alloc (.cells #[.string a0, .int .i64 a1] 91)) g hg
    exact ⟨_, _, _, h, by simp⟩))).mono (by simp))
  have B7 := Lib.hid (fun k (hk : k < base) => (HG.out.block k (by simp; omega) (fun h => by have := (E1.out.lt k h.symm).1; omega)).trans (heap_alloc_old v1 (.cells #[.string a0, .int .i64 a1] 91) (show k < v1.heap.size by omega)))
  have S7 := HG.out.size
  refine ⟨⟨_, rfl⟩, ?_, K7.out.trans (Kp.set (show w7.heap[bM]? = _ from M7.out) (by simp) 4 _), ?_, ?_, ?_, .slice (some ⟨g, 0, none⟩) (es.length + 1) cap, ?_, ?_⟩
  · exact (Below.heap_setCell _ _ _ _ hBM).trans ((B7.out B hb1).trans R1.out)
  · simp at S7 ⊢
    have := Z5.out
    omega
  · intro k hk h1 h2
    rw [Below.heap_setCell _ _ _ _ h2, B7.out k hk]
    exact N1.out k hk h1
  · exact ⟨HG.out.os.trans O1.out.1, HG.out.tape.trans O1.out.2.1, HG.out.output.trans O1.out.2.2⟩
  · unfold MB
    rw [heap_setCell_same w7 bM 4 _ _ _ M7.out]
    rfl
  · exact ownsRow_setCell_below HOWN.out hb2 _

set_option maxHeartbeats 4000000 in
set_option maxRecDepth 100000 in
theorem dec2_any (B bR bM base : Nat) (st : Rest) (nm tx : ByteArray) (mj mn : Int) (vE vI vP : Value) (es : List Imp) (w : World) (hR : Rd B st w) (hB : Boxed w bR 84 (.pointer (some ⟨B, 0, none⟩))) (hM : MB w bM nm mj mn tx vE vI vP) (hE : ImpOwn w base vI es)
    (hl : (left st).length ≤ big) (hes : es.length ≤ 1000) (hb1 : B < base) (hb2 : bM < base) (hbw : base ≤ w.heap.size) :
    Calls Try.prog 65 #[.pointer (some ⟨bR, 0, none⟩), .pointer (some ⟨bM, 0, none⟩)] w fun e w' => (∃ u, e = .returned u) ∧
      Rd B (decImp st).2 w' ∧ Kp [86, 26, 52] w w' ∧ w.heap.size ≤ w'.heap.size ∧ (∀ k, k < base → k ≠ B → k ≠ bM → w'.heap[k]? = w.heap[k]?) ∧ (w'.os = w.os ∧ w'.tape = w.tape ∧ w'.output = w.output) ∧ ∃ v', MB w' bM nm mj mn tx vE v' vP ∧ ImpOwn w' base v' (es ++ [(decImp st).1]) := by
  have hl0 := hl
  have c0 := Lib.hid (fun W hW => rname_any B st W hW hl0)
  have hl1 : (left (nam st).2).length ≤ big := left_le _ (left_le 1 hl0)
  have c1 := Lib.hid (fun W hW => rname_any B (nam st).2 W hW hl1)
  have hl2 : (left (nam (nam st).2).2).length ≤ big := left_le _ (left_le 1 hl1)
  have c2 := Lib.hid (fun W hW => number_any B (nam (nam st).2).2 1 W hW hl2 (by omega) (by omega))
  change Hid (∀ W, _ → Calls _ _ #[_, .int .i64 1] W _) at c2
  have hl3 : (left (numb 1 (nam (nam st).2).2).2).length ≤ big := left_le 1 hl2
  have c3 := Lib.hid (fun W hW => number_any B (numb 1 (nam (nam st).2).2).2 1 W hW hl3 (by omega) (by omega))
  change Hid (∀ W, _ → Calls _ _ #[_, .int .i64 1] W _) at c3
  have hl4 : (left (numb 1 (numb 1 (nam (nam st).2).2).2).2).length ≤ big := left_le 1 hl3
  have hx : decImp st = (⟨sof (nam st).1, sof (nam (nam st).2).1, (numb 1 (nam (nam st).2).2).1, (numb 1 (numb 1 (nam (nam st).2).2).2).1⟩, (numb 1 (numb 1 (nam (nam st).2).2).2).2) := rfl
  rw [hx]
  obtain ⟨a3, ha3⟩ : ∃ a, a = (numb 1 (numb 1 (nam (nam st).2).2).2).1 := ⟨_, rfl⟩
  rw [← ha3] at c3 ⊢
  obtain ⟨st4, hst4⟩ : ∃ s, s = (numb 1 (numb 1 (nam (nam st).2).2).2).2 := ⟨_, rfl⟩
  rw [← hst4] at c3 ⊢
  obtain ⟨a2, ha2⟩ : ∃ a, a = (numb 1 (nam (nam st).2).2).1 := ⟨_, rfl⟩
  rw [← ha2] at c2 ⊢
  obtain ⟨st3, hst3⟩ : ∃ s, s = (numb 1 (nam (nam st).2).2).2 := ⟨_, rfl⟩
  rw [← hst3] at c2 c3
  obtain ⟨a1, ha1⟩ : ∃ a, a = sof (nam (nam st).2).1 := ⟨_, rfl⟩
  rw [← ha1] at c1 ⊢
  obtain ⟨st2, hst2⟩ : ∃ s, s = (nam (nam st).2).2 := ⟨_, rfl⟩
  rw [← hst2] at c1 c2
  obtain ⟨a0, ha0⟩ : ∃ a, a = sof (nam st).1 := ⟨_, rfl⟩
  rw [← ha0] at c0 ⊢
  obtain ⟨st1, hst1⟩ : ∃ s, s = (nam st).2 := ⟨_, rfl⟩
  rw [← hst1] at c0 c1
  have HB := Lib.hid hB
  have HM := Lib.hid hM
  have HE := Lib.hid hE
  have hbR := hB.lt
  have HR := Lib.hid hR
  have qw := hB.cell
  have hBM : B ≠ bM := heap_ne (show w.heap[B]? = _ from hR) (show w.heap[bM]? = _ from hM) (by decide)
  clear hx hl hR hB hM hE ha0 hst1 hl0 ha1 hst2 hl1 ha2 hst3 hl2 ha3 hst4 hl3 hl4
  go_enter Try.func65, Try.ntmps65
  go_wp2_with fail
  refine (c0.out _ HR.out).mono ?_
  rintro e u0 ⟨rfl, h0, ho0⟩
  have k0 := Lib.hid (ho0.kp HR.out (ts := [86]) (by simp))
  have z0 := ho0.size
  have L0 := Lib.hid (fun k (hk : k < base) (h1 : k ≠ B) => ho0.block k (by omega) h1)
  obtain ⟨v0, hv0⟩ : ∃ v, v = u0.alloc (.cells #[.string a0, .string ⟨#[]⟩, .int .i64 0, .int .i64 0] 52) := ⟨_, rfl⟩
  have HV0 := Lib.hid hv0.symm
  have b0 : ∀ k, k < u0.heap.size → v0.heap[k]? = u0.heap[k]? := fun k hk => hv0 ▸ heap_alloc_old u0 _ hk
  have X0 := Lib.hid (show v0.heap[u0.heap.size]? = some (.cells #[.string a0, .string ⟨#[]⟩, .int .i64 0, .int .i64 0] 52 (0, 0)) from hv0 ▸ heap_alloc_new _ _)
  have K0 := Lib.hid (show Kp [86, 52] w v0 from hv0 ▸ ((k0.out.alloc _).mono (by simp)))
  have R0 := Lib.hid (show Rd B st1 v0 from (b0 B h0.lt).trans h0)
  have O0 := Lib.hid (show v0.os = w.os ∧ v0.tape = w.tape ∧ v0.output = w.output from hv0 ▸ ⟨ho0.os, ho0.tape, ho0.output⟩)
  have N0 := Lib.hid (fun k (hk : k < base) (h1 : k ≠ B) => (b0 k (by omega)).trans (L0.out k hk h1))
  have qu := (box_kp HB.out k0.out (by decide)).cell
  have q0v := (box_kp HB.out K0.out (by decide)).cell
  have M0 := Lib.hid (show MB v0 bM nm mj mn tx vE vI vP from K0.out _ _ _ _ HM.out (by decide))
  have E0 := Lib.hid (show ImpOwn v0 base vI es from (hv0 ▸ ((own_kp HE.out k0.out (by decide)).alloc _)))
  have hEne : vI.ownBlock ≠ some u0.heap.size := fun h => by
    have := (own_kp HE.out k0.out (by decide)).lt _ h
    omega
  have HEN := Lib.hid hEne
  have y0z : u0.heap.size < v0.heap.size := (Array.getElem?_eq_some_iff.1 X0.out).1
  have hbR2 : bR < u0.heap.size := by omega
  have hbx : base ≤ u0.heap.size := by omega
  clear h0 ho0 hv0 b0 qw hEne q0v
  go_wp2_with fail
  rw [HV0.out]
  refine (c1.out _ R0.out).mono ?_
  rintro e u1 ⟨rfl, h1, ho1⟩
  have k1 := Lib.hid (ho1.kp R0.out (ts := [86]) (by simp))
  have z1 := ho1.size
  have XU1 := Lib.hid (k1.out _ _ _ _ X0.out (by decide))
  have EU1 := Lib.hid (show ImpOwn u1 base vI es from own_kp E0.out k1.out (by decide))
  have p0_1 := heap_cell XU1.out 1
  have p1_1 := heap_free XU1.out 1
  simp only [List.getElem?_toArray, List.getElem?_cons_succ, List.getElem?_cons_zero] at p0_1
  obtain ⟨v1, hv1⟩ : ∃ v, v = u1.setCell ⟨u0.heap.size, 1, none⟩ (.string a1) := ⟨_, rfl⟩
  have hv1' := hv1.symm
  have zz1 : v1.heap.size = u1.heap.size := by subst hv1; simp
  have s1 : ∀ k, k ≠ u0.heap.size → v1.heap[k]? = u1.heap[k]? := fun k hk => by rw [hv1]; exact Below.heap_setCell _ _ _ _ hk
  have X1 := Lib.hid (show v1.heap[u0.heap.size]? = some (.cells #[.string a0, .string a1, .int .i64 0, .int .i64 0] 52 (0, 0)) from by rw [hv1, heap_setCell_same u1 _ 1 _ _ _ XU1.out]; rfl)
  have KK1 : Kp [86, 52] u1 v1 := hv1 ▸ Kp.set XU1.out (by simp) 1 _
  have K1 := Lib.hid (show Kp [86, 52] w v1 from (K0.out.trans (k1.out.mono (by simp))).trans KK1)
  have R1 := Lib.hid (show Rd B st2 v1 from (s1 B (by omega)).trans h1)
  have M1 := Lib.hid (show MB v1 bM nm mj mn tx vE vI vP from K1.out _ _ _ _ HM.out (by decide))
  have E1 := Lib.hid (show ImpOwn v1 base vI es from hv1 ▸ ownsRow_setCell_other EU1.out HEN.out _)
  have N1 := Lib.hid (fun k (hk : k < base) (h1 : k ≠ B) => (s1 k (by omega)).trans ((ho1.block k (by omega) h1).trans (N0.out k hk h1)))
  have O1 := Lib.hid (show v1.os = w.os ∧ v1.tape = w.tape ∧ v1.output = w.output from hv1 ▸ ⟨ho1.os.trans O0.out.1, ho1.tape.trans O0.out.2.1, ho1.output.trans O0.out.2.2⟩)
  have qv1 := (box_kp HB.out K1.out (by decide)).cell
  have y1z : u0.heap.size < v1.heap.size := by omega
  clear h1 ho1 hv1 s1 zz1 KK1
  go_wp2_with fail
  refine (c2.out _ R1.out).mono ?_
  rintro e u2 ⟨rfl, h2, ho2⟩
  have k2 := Lib.hid (ho2.kp R1.out (ts := [86]) (by simp))
  have z2 := ho2.size
  have XU2 := Lib.hid (k2.out _ _ _ _ X1.out (by decide))
  have EU2 := Lib.hid (show ImpOwn u2 base vI es from own_kp E1.out k2.out (by decide))
  have p0_2 := heap_cell XU2.out 2
  have p1_2 := heap_free XU2.out 2
  simp only [List.getElem?_toArray, List.getElem?_cons_succ, List.getElem?_cons_zero] at p0_2
  obtain ⟨v2, hv2⟩ : ∃ v, v = u2.setCell ⟨u0.heap.size, 2, none⟩ (.int .i64 a2) := ⟨_, rfl⟩
  have hv2' := hv2.symm
  have zz2 : v2.heap.size = u2.heap.size := by subst hv2; simp
  have s2 : ∀ k, k ≠ u0.heap.size → v2.heap[k]? = u2.heap[k]? := fun k hk => by rw [hv2]; exact Below.heap_setCell _ _ _ _ hk
  have X2 := Lib.hid (show v2.heap[u0.heap.size]? = some (.cells #[.string a0, .string a1, .int .i64 a2, .int .i64 0] 52 (0, 0)) from by rw [hv2, heap_setCell_same u2 _ 2 _ _ _ XU2.out]; rfl)
  have KK2 : Kp [86, 52] u2 v2 := hv2 ▸ Kp.set XU2.out (by simp) 2 _
  have K2 := Lib.hid (show Kp [86, 52] w v2 from (K1.out.trans (k2.out.mono (by simp))).trans KK2)
  have R2 := Lib.hid (show Rd B st3 v2 from (s2 B (by omega)).trans h2)
  have M2 := Lib.hid (show MB v2 bM nm mj mn tx vE vI vP from K2.out _ _ _ _ HM.out (by decide))
  have E2 := Lib.hid (show ImpOwn v2 base vI es from hv2 ▸ ownsRow_setCell_other EU2.out HEN.out _)
  have N2 := Lib.hid (fun k (hk : k < base) (h1 : k ≠ B) => (s2 k (by omega)).trans ((ho2.block k (by omega) h1).trans (N1.out k hk h1)))
  have O2 := Lib.hid (show v2.os = w.os ∧ v2.tape = w.tape ∧ v2.output = w.output from hv2 ▸ ⟨ho2.os.trans O1.out.1, ho2.tape.trans O1.out.2.1, ho2.output.trans O1.out.2.2⟩)
  have qv2 := (box_kp HB.out K2.out (by decide)).cell
  have y2z : u0.heap.size < v2.heap.size := by omega
  clear h2 ho2 hv2 s2 zz2 KK2
  go_wp2_with fail
  refine (c3.out _ R2.out).mono ?_
  rintro e u3 ⟨rfl, h3, ho3⟩
  have k3 := Lib.hid (ho3.kp R2.out (ts := [86]) (by simp))
  have z3 := ho3.size
  have XU3 := Lib.hid (k3.out _ _ _ _ X2.out (by decide))
  have EU3 := Lib.hid (show ImpOwn u3 base vI es from own_kp E2.out k3.out (by decide))
  have p0_3 := heap_cell XU3.out 3
  have p1_3 := heap_free XU3.out 3
  simp only [List.getElem?_toArray, List.getElem?_cons_succ, List.getElem?_cons_zero] at p0_3
  obtain ⟨v3, hv3⟩ : ∃ v, v = u3.setCell ⟨u0.heap.size, 3, none⟩ (.int .i64 a3) := ⟨_, rfl⟩
  have hv3' := hv3.symm
  have zz3 : v3.heap.size = u3.heap.size := by subst hv3; simp
  have s3 : ∀ k, k ≠ u0.heap.size → v3.heap[k]? = u3.heap[k]? := fun k hk => by rw [hv3]; exact Below.heap_setCell _ _ _ _ hk
  have X3 := Lib.hid (show v3.heap[u0.heap.size]? = some (.cells #[.string a0, .string a1, .int .i64 a2, .int .i64 a3] 52 (0, 0)) from by rw [hv3, heap_setCell_same u3 _ 3 _ _ _ XU3.out]; rfl)
  have KK3 : Kp [86, 52] u3 v3 := hv3 ▸ Kp.set XU3.out (by simp) 3 _
  have K3 := Lib.hid (show Kp [86, 52] w v3 from (K2.out.trans (k3.out.mono (by simp))).trans KK3)
  have R3 := Lib.hid (show Rd B st4 v3 from (s3 B (by omega)).trans h3)
  have M3 := Lib.hid (show MB v3 bM nm mj mn tx vE vI vP from K3.out _ _ _ _ HM.out (by decide))
  have E3 := Lib.hid (show ImpOwn v3 base vI es from hv3 ▸ ownsRow_setCell_other EU3.out HEN.out _)
  have N3 := Lib.hid (fun k (hk : k < base) (h1 : k ≠ B) => (s3 k (by omega)).trans ((ho3.block k (by omega) h1).trans (N2.out k hk h1)))
  have O3 := Lib.hid (show v3.os = w.os ∧ v3.tape = w.tape ∧ v3.output = w.output from hv3 ▸ ⟨ho3.os.trans O2.out.1, ho3.tape.trans O2.out.2.1, ho3.output.trans O2.out.2.2⟩)
  have qv3 := (box_kp HB.out K3.out (by decide)).cell
  have y3z : u0.heap.size < v3.heap.size := by omega
  clear h3 ho3 hv3 s3 zz3 KK3
  have m4 := heap_cell (show v3.heap[bM]? = _ from M3.out) 5
  have x0 := heap_cell X3.out 0
  have x1 := heap_cell X3.out 1
  have x2 := heap_cell X3.out 2
  have x3 := heap_cell X3.out 3
  simp only [List.getElem?_toArray, List.getElem?_cons_succ, List.getElem?_cons_zero] at m4 x0 x1 x2 x3
  have hb5 : base ≤ v3.heap.size := by omega
  have Z5 := Lib.hid (show w.heap.size ≤ v3.heap.size by omega)
  go_wp2_with (at_builtin; refine append_Imp v3 rfl _ _ rfl base vI es ⟨a0, a1, a2, a3⟩ rfl rfl E3.out (by omega) (by omega) ?_; intro v' w7 hown7 hg7; have HOWN := Lib.hid hown7; obtain ⟨g, cap, rfl⟩ := ownsRow_succ (show w7.ownsRow base _ 4 v' (es.length + 1) _ by have h := hown7; unfold ImpOwn at h; simpa using h); have HG := Lib.hid hg7; have hne : some bM ≠ vI.ownBlock := (fun h => by have := (E3.out.lt bM h.symm).1; omega); have M7 := Lib.hid (show MB w7 bM nm mj mn tx vE vI vP from (hg7.block bM (by simp; omega) hne).trans ((heap_alloc_old v3 _ (by omega)).trans M3.out)); have p7 := heap_cell (show w7.heap[bM]? = _ from M7.out) 5; have f7 := heap_free (show w7.heap[bM]? = _ from M7.out) 5; simp only [List.getElem?_toArray, List.getElem?_cons_succ, List.getElem?_cons_zero] at p7; clear hown7 hg7 hne)
  go_end0
  have K7 := Lib.hid (show Kp [86, 26, 52] w w7 from ((K3.out.alloc _).trans (Kp.grown (ts := [86, 52]) HG.out (fun g hg => by
    obtain ⟨c', fz, h⟩ := own_kind (E3.out.alloc (.cells #[.string a0, .string a1, .int .i64 a2, .int .i64 a3] 52)) g hg
    exact ⟨_, _, _, h, by simp⟩))).mono (by simp))
  have B7 := Lib.hid (fun k (hk : k < base) => (HG.out.block k (by simp; omega) (fun h => by have := (E3.out.lt k h.symm).1; omega)).trans (heap_alloc_old v3 (.cells #[.string a0, .string a1, .int .i64 a2, .int .i64 a3] 52) (show k < v3.heap.size by omega)))
  have S7 := HG.out.size
  refine ⟨⟨_, rfl⟩, ?_, K7.out.trans (Kp.set (show w7.heap[bM]? = _ from M7.out) (by simp) 5 _), ?_, ?_, ?_, .slice (some ⟨g, 0, none⟩) (es.length + 1) cap, ?_, ?_⟩
  · exact (Below.heap_setCell _ _ _ _ hBM).trans ((B7.out B hb1).trans R3.out)
  · simp at S7 ⊢
    have := Z5.out
    omega
  · intro k hk h1 h2
    rw [Below.heap_setCell _ _ _ _ h2, B7.out k hk]
    exact N3.out k hk h1
  · exact ⟨HG.out.os.trans O3.out.1, HG.out.tape.trans O3.out.2.1, HG.out.output.trans O3.out.2.2⟩
  · unfold MB
    rw [heap_setCell_same w7 bM 5 _ _ _ M7.out]
    rfl
  · exact ownsRow_setCell_below HOWN.out hb2 _

set_option maxHeartbeats 4000000 in
set_option maxRecDepth 100000 in
theorem dec3_any (B bR bM base : Nat) (st : Rest) (nm tx : ByteArray) (mj mn : Int) (vE vI vP : Value) (es : List Pat) (w : World) (hR : Rd B st w) (hB : Boxed w bR 84 (.pointer (some ⟨B, 0, none⟩))) (hM : MB w bM nm mj mn tx vE vI vP) (hE : PatOwn w base vP es)
    (hl : (left st).length ≤ big) (hes : es.length ≤ 1000) (hb1 : B < base) (hb2 : bM < base) (hbw : base ≤ w.heap.size) :
    Calls Try.prog 66 #[.pointer (some ⟨bR, 0, none⟩), .pointer (some ⟨bM, 0, none⟩)] w fun e w' => (∃ u, e = .returned u) ∧
      Rd B (decPat st).2 w' ∧ Kp [86, 26, 75] w w' ∧ w.heap.size ≤ w'.heap.size ∧ (∀ k, k < base → k ≠ B → k ≠ bM → w'.heap[k]? = w.heap[k]?) ∧ (w'.os = w.os ∧ w'.tape = w.tape ∧ w'.output = w.output) ∧ ∃ v', MB w' bM nm mj mn tx vE vI v' ∧ PatOwn w' base v' (es ++ [(decPat st).1]) := by
  have hl0 := hl
  have c0 := Lib.hid (fun W hW => number_any B st 1 W hW hl0 (by omega) (by omega))
  change Hid (∀ W, _ → Calls _ _ #[_, .int .i64 1] W _) at c0
  have hl1 : (left (numb 1 st).2).length ≤ big := left_le 1 hl0
  have c1 := Lib.hid (fun W hW => number_any B (numb 1 st).2 2 W hW hl1 (by omega) (by omega))
  change Hid (∀ W, _ → Calls _ _ #[_, .int .i64 2] W _) at c1
  have hl2 : (left (numb 2 (numb 1 st).2).2).length ≤ big := left_le 2 hl1
  have c2 := Lib.hid (fun W hW => number_any B (numb 2 (numb 1 st).2).2 1 W hW hl2 (by omega) (by omega))
  change Hid (∀ W, _ → Calls _ _ #[_, .int .i64 1] W _) at c2
  have hl3 : (left (numb 1 (numb 2 (numb 1 st).2).2).2).length ≤ big := left_le 1 hl2
  have hr2 := numb_range 1 (numb 2 (numb 1 st).2).2 (by omega)
  have c3 := Lib.hid (fun W hW => number_any B (numb 1 (numb 2 (numb 1 st).2).2).2 2 W hW hl3 (by omega) (by omega))
  change Hid (∀ W, _ → Calls _ _ #[_, .int .i64 2] W _) at c3
  have hl4 : (left (numb 2 (numb 1 (numb 2 (numb 1 st).2).2).2).2).length ≤ big := left_le 2 hl3
  have hx : decPat st = (⟨(numb 1 st).1, (numb 2 (numb 1 st).2).1, (numb 1 (numb 2 (numb 1 st).2).2).1 - 1, (numb 2 (numb 1 (numb 2 (numb 1 st).2).2).2).1⟩, (numb 2 (numb 1 (numb 2 (numb 1 st).2).2).2).2) := rfl
  rw [hx]
  obtain ⟨a3, ha3⟩ : ∃ a, a = (numb 2 (numb 1 (numb 2 (numb 1 st).2).2).2).1 := ⟨_, rfl⟩
  rw [← ha3] at c3 ⊢
  obtain ⟨st4, hst4⟩ : ∃ s, s = (numb 2 (numb 1 (numb 2 (numb 1 st).2).2).2).2 := ⟨_, rfl⟩
  rw [← hst4] at c3 ⊢
  obtain ⟨a2, ha2⟩ : ∃ a, a = (numb 1 (numb 2 (numb 1 st).2).2).1 := ⟨_, rfl⟩
  rw [← ha2] at c2 hr2 ⊢
  obtain ⟨y2, hy2⟩ : ∃ y, y = a2 - 1 := ⟨_, rfl⟩
  have q2 : IntKind.i64.wrap (a2 - 1) = y2 := by rw [hy2]; exact IntWalk.i64_in _ (by omega)
  rw [← hy2]
  obtain ⟨st3, hst3⟩ : ∃ s, s = (numb 1 (numb 2 (numb 1 st).2).2).2 := ⟨_, rfl⟩
  rw [← hst3] at c2 c3
  obtain ⟨a1, ha1⟩ : ∃ a, a = (numb 2 (numb 1 st).2).1 := ⟨_, rfl⟩
  rw [← ha1] at c1 ⊢
  obtain ⟨st2, hst2⟩ : ∃ s, s = (numb 2 (numb 1 st).2).2 := ⟨_, rfl⟩
  rw [← hst2] at c1 c2
  obtain ⟨a0, ha0⟩ : ∃ a, a = (numb 1 st).1 := ⟨_, rfl⟩
  rw [← ha0] at c0 ⊢
  obtain ⟨st1, hst1⟩ : ∃ s, s = (numb 1 st).2 := ⟨_, rfl⟩
  rw [← hst1] at c0 c1
  have HB := Lib.hid hB
  have HM := Lib.hid hM
  have HE := Lib.hid hE
  have hbR := hB.lt
  have HR := Lib.hid hR
  have qw := hB.cell
  have hBM : B ≠ bM := heap_ne (show w.heap[B]? = _ from hR) (show w.heap[bM]? = _ from hM) (by decide)
  clear hx hl hR hB hM hE ha0 hst1 hl0 ha1 hst2 hl1 ha2 hst3 hl2 ha3 hst4 hl3 hl4 hy2 hr2
  go_enter Try.func66, Try.ntmps66
  go_wp2_with fail
  refine (c0.out _ HR.out).mono ?_
  rintro e u0 ⟨rfl, h0, ho0⟩
  have k0 := Lib.hid (ho0.kp HR.out (ts := [86]) (by simp))
  have z0 := ho0.size
  have L0 := Lib.hid (fun k (hk : k < base) (h1 : k ≠ B) => ho0.block k (by omega) h1)
  obtain ⟨v0, hv0⟩ : ∃ v, v = u0.alloc (.cells #[.int .i64 a0, .int .i64 0, .int .i64 0, .int .i64 0] 75) := ⟨_, rfl⟩
  have HV0 := Lib.hid hv0.symm
  have b0 : ∀ k, k < u0.heap.size → v0.heap[k]? = u0.heap[k]? := fun k hk => hv0 ▸ heap_alloc_old u0 _ hk
  have X0 := Lib.hid (show v0.heap[u0.heap.size]? = some (.cells #[.int .i64 a0, .int .i64 0, .int .i64 0, .int .i64 0] 75 (0, 0)) from hv0 ▸ heap_alloc_new _ _)
  have K0 := Lib.hid (show Kp [86, 75] w v0 from hv0 ▸ ((k0.out.alloc _).mono (by simp)))
  have R0 := Lib.hid (show Rd B st1 v0 from (b0 B h0.lt).trans h0)
  have O0 := Lib.hid (show v0.os = w.os ∧ v0.tape = w.tape ∧ v0.output = w.output from hv0 ▸ ⟨ho0.os, ho0.tape, ho0.output⟩)
  have N0 := Lib.hid (fun k (hk : k < base) (h1 : k ≠ B) => (b0 k (by omega)).trans (L0.out k hk h1))
  have qu := (box_kp HB.out k0.out (by decide)).cell
  have q0v := (box_kp HB.out K0.out (by decide)).cell
  have M0 := Lib.hid (show MB v0 bM nm mj mn tx vE vI vP from K0.out _ _ _ _ HM.out (by decide))
  have E0 := Lib.hid (show PatOwn v0 base vP es from (hv0 ▸ ((own_kp HE.out k0.out (by decide)).alloc _)))
  have hEne : vP.ownBlock ≠ some u0.heap.size := fun h => by
    have := (own_kp HE.out k0.out (by decide)).lt _ h
    omega
  have HEN := Lib.hid hEne
  have y0z : u0.heap.size < v0.heap.size := (Array.getElem?_eq_some_iff.1 X0.out).1
  have hbR2 : bR < u0.heap.size := by omega
  have hbx : base ≤ u0.heap.size := by omega
  clear h0 ho0 hv0 b0 qw hEne q0v
  go_wp2_with fail
  rw [HV0.out]
  refine (c1.out _ R0.out).mono ?_
  rintro e u1 ⟨rfl, h1, ho1⟩
  have k1 := Lib.hid (ho1.kp R0.out (ts := [86]) (by simp))
  have z1 := ho1.size
  have XU1 := Lib.hid (k1.out _ _ _ _ X0.out (by decide))
  have EU1 := Lib.hid (show PatOwn u1 base vP es from own_kp E0.out k1.out (by decide))
  have p0_1 := heap_cell XU1.out 1
  have p1_1 := heap_free XU1.out 1
  simp only [List.getElem?_toArray, List.getElem?_cons_succ, List.getElem?_cons_zero] at p0_1
  obtain ⟨v1, hv1⟩ : ∃ v, v = u1.setCell ⟨u0.heap.size, 1, none⟩ (.int .i64 a1) := ⟨_, rfl⟩
  have hv1' := hv1.symm
  have zz1 : v1.heap.size = u1.heap.size := by subst hv1; simp
  have s1 : ∀ k, k ≠ u0.heap.size → v1.heap[k]? = u1.heap[k]? := fun k hk => by rw [hv1]; exact Below.heap_setCell _ _ _ _ hk
  have X1 := Lib.hid (show v1.heap[u0.heap.size]? = some (.cells #[.int .i64 a0, .int .i64 a1, .int .i64 0, .int .i64 0] 75 (0, 0)) from by rw [hv1, heap_setCell_same u1 _ 1 _ _ _ XU1.out]; rfl)
  have KK1 : Kp [86, 75] u1 v1 := hv1 ▸ Kp.set XU1.out (by simp) 1 _
  have K1 := Lib.hid (show Kp [86, 75] w v1 from (K0.out.trans (k1.out.mono (by simp))).trans KK1)
  have R1 := Lib.hid (show Rd B st2 v1 from (s1 B (by omega)).trans h1)
  have M1 := Lib.hid (show MB v1 bM nm mj mn tx vE vI vP from K1.out _ _ _ _ HM.out (by decide))
  have E1 := Lib.hid (show PatOwn v1 base vP es from hv1 ▸ ownsRow_setCell_other EU1.out HEN.out _)
  have N1 := Lib.hid (fun k (hk : k < base) (h1 : k ≠ B) => (s1 k (by omega)).trans ((ho1.block k (by omega) h1).trans (N0.out k hk h1)))
  have O1 := Lib.hid (show v1.os = w.os ∧ v1.tape = w.tape ∧ v1.output = w.output from hv1 ▸ ⟨ho1.os.trans O0.out.1, ho1.tape.trans O0.out.2.1, ho1.output.trans O0.out.2.2⟩)
  have qv1 := (box_kp HB.out K1.out (by decide)).cell
  have y1z : u0.heap.size < v1.heap.size := by omega
  clear h1 ho1 hv1 s1 zz1 KK1
  go_wp2_with fail
  refine (c2.out _ R1.out).mono ?_
  rintro e u2 ⟨rfl, h2, ho2⟩
  have k2 := Lib.hid (ho2.kp R1.out (ts := [86]) (by simp))
  have z2 := ho2.size
  have XU2 := Lib.hid (k2.out _ _ _ _ X1.out (by decide))
  have EU2 := Lib.hid (show PatOwn u2 base vP es from own_kp E1.out k2.out (by decide))
  have p0_2 := heap_cell XU2.out 2
  have p1_2 := heap_free XU2.out 2
  simp only [List.getElem?_toArray, List.getElem?_cons_succ, List.getElem?_cons_zero] at p0_2
  obtain ⟨v2, hv2⟩ : ∃ v, v = u2.setCell ⟨u0.heap.size, 2, none⟩ (.int .i64 y2) := ⟨_, rfl⟩
  have hv2' := hv2.symm
  have zz2 : v2.heap.size = u2.heap.size := by subst hv2; simp
  have s2 : ∀ k, k ≠ u0.heap.size → v2.heap[k]? = u2.heap[k]? := fun k hk => by rw [hv2]; exact Below.heap_setCell _ _ _ _ hk
  have X2 := Lib.hid (show v2.heap[u0.heap.size]? = some (.cells #[.int .i64 a0, .int .i64 a1, .int .i64 y2, .int .i64 0] 75 (0, 0)) from by rw [hv2, heap_setCell_same u2 _ 2 _ _ _ XU2.out]; rfl)
  have KK2 : Kp [86, 75] u2 v2 := hv2 ▸ Kp.set XU2.out (by simp) 2 _
  have K2 := Lib.hid (show Kp [86, 75] w v2 from (K1.out.trans (k2.out.mono (by simp))).trans KK2)
  have R2 := Lib.hid (show Rd B st3 v2 from (s2 B (by omega)).trans h2)
  have M2 := Lib.hid (show MB v2 bM nm mj mn tx vE vI vP from K2.out _ _ _ _ HM.out (by decide))
  have E2 := Lib.hid (show PatOwn v2 base vP es from hv2 ▸ ownsRow_setCell_other EU2.out HEN.out _)
  have N2 := Lib.hid (fun k (hk : k < base) (h1 : k ≠ B) => (s2 k (by omega)).trans ((ho2.block k (by omega) h1).trans (N1.out k hk h1)))
  have O2 := Lib.hid (show v2.os = w.os ∧ v2.tape = w.tape ∧ v2.output = w.output from hv2 ▸ ⟨ho2.os.trans O1.out.1, ho2.tape.trans O1.out.2.1, ho2.output.trans O1.out.2.2⟩)
  have qv2 := (box_kp HB.out K2.out (by decide)).cell
  have y2z : u0.heap.size < v2.heap.size := by omega
  clear h2 ho2 hv2 s2 zz2 KK2
  go_wp2_with fail
  refine (c3.out _ R2.out).mono ?_
  rintro e u3 ⟨rfl, h3, ho3⟩
  have k3 := Lib.hid (ho3.kp R2.out (ts := [86]) (by simp))
  have z3 := ho3.size
  have XU3 := Lib.hid (k3.out _ _ _ _ X2.out (by decide))
  have EU3 := Lib.hid (show PatOwn u3 base vP es from own_kp E2.out k3.out (by decide))
  have p0_3 := heap_cell XU3.out 3
  have p1_3 := heap_free XU3.out 3
  simp only [List.getElem?_toArray, List.getElem?_cons_succ, List.getElem?_cons_zero] at p0_3
  obtain ⟨v3, hv3⟩ : ∃ v, v = u3.setCell ⟨u0.heap.size, 3, none⟩ (.int .i64 a3) := ⟨_, rfl⟩
  have hv3' := hv3.symm
  have zz3 : v3.heap.size = u3.heap.size := by subst hv3; simp
  have s3 : ∀ k, k ≠ u0.heap.size → v3.heap[k]? = u3.heap[k]? := fun k hk => by rw [hv3]; exact Below.heap_setCell _ _ _ _ hk
  have X3 := Lib.hid (show v3.heap[u0.heap.size]? = some (.cells #[.int .i64 a0, .int .i64 a1, .int .i64 y2, .int .i64 a3] 75 (0, 0)) from by rw [hv3, heap_setCell_same u3 _ 3 _ _ _ XU3.out]; rfl)
  have KK3 : Kp [86, 75] u3 v3 := hv3 ▸ Kp.set XU3.out (by simp) 3 _
  have K3 := Lib.hid (show Kp [86, 75] w v3 from (K2.out.trans (k3.out.mono (by simp))).trans KK3)
  have R3 := Lib.hid (show Rd B st4 v3 from (s3 B (by omega)).trans h3)
  have M3 := Lib.hid (show MB v3 bM nm mj mn tx vE vI vP from K3.out _ _ _ _ HM.out (by decide))
  have E3 := Lib.hid (show PatOwn v3 base vP es from hv3 ▸ ownsRow_setCell_other EU3.out HEN.out _)
  have N3 := Lib.hid (fun k (hk : k < base) (h1 : k ≠ B) => (s3 k (by omega)).trans ((ho3.block k (by omega) h1).trans (N2.out k hk h1)))
  have O3 := Lib.hid (show v3.os = w.os ∧ v3.tape = w.tape ∧ v3.output = w.output from hv3 ▸ ⟨ho3.os.trans O2.out.1, ho3.tape.trans O2.out.2.1, ho3.output.trans O2.out.2.2⟩)
  have qv3 := (box_kp HB.out K3.out (by decide)).cell
  have y3z : u0.heap.size < v3.heap.size := by omega
  clear h3 ho3 hv3 s3 zz3 KK3
  have m4 := heap_cell (show v3.heap[bM]? = _ from M3.out) 6
  have x0 := heap_cell X3.out 0
  have x1 := heap_cell X3.out 1
  have x2 := heap_cell X3.out 2
  have x3 := heap_cell X3.out 3
  simp only [List.getElem?_toArray, List.getElem?_cons_succ, List.getElem?_cons_zero] at m4 x0 x1 x2 x3
  have hb5 : base ≤ v3.heap.size := by omega
  have Z5 := Lib.hid (show w.heap.size ≤ v3.heap.size by omega)
  go_wp2_with (at_builtin; refine append_Pat v3 rfl _ _ rfl base vP es ⟨a0, a1, y2, a3⟩ rfl rfl E3.out (by omega) (by omega) ?_; intro v' w7 hown7 hg7; have HOWN := Lib.hid hown7; obtain ⟨g, cap, rfl⟩ := ownsRow_succ (show w7.ownsRow base _ 4 v' (es.length + 1) _ by have h := hown7; unfold PatOwn at h; simpa using h); have HG := Lib.hid hg7; have hne : some bM ≠ vP.ownBlock := (fun h => by have := (E3.out.lt bM h.symm).1; omega); have M7 := Lib.hid (show MB w7 bM nm mj mn tx vE vI vP from (hg7.block bM (by simp; omega) hne).trans ((heap_alloc_old v3 _ (by omega)).trans M3.out)); have p7 := heap_cell (show w7.heap[bM]? = _ from M7.out) 6; have f7 := heap_free (show w7.heap[bM]? = _ from M7.out) 6; simp only [List.getElem?_toArray, List.getElem?_cons_succ, List.getElem?_cons_zero] at p7; clear hown7 hg7 hne)
  go_end0
  have K7 := Lib.hid (show Kp [86, 26, 75] w w7 from ((K3.out.alloc _).trans (Kp.grown (ts := [86, 75]) HG.out (fun g hg => by
    obtain ⟨c', fz, h⟩ := own_kind (E3.out.alloc (.cells #[.int .i64 a0, .int .i64 a1, .int .i64 y2, .int .i64 a3] 75)) g hg
    exact ⟨_, _, _, h, by simp⟩))).mono (by simp))
  have B7 := Lib.hid (fun k (hk : k < base) => (HG.out.block k (by simp; omega) (fun h => by have := (E3.out.lt k h.symm).1; omega)).trans (heap_alloc_old v3 (.cells #[.int .i64 a0, .int .i64 a1, .int .i64 y2, .int .i64 a3] 75) (show k < v3.heap.size by omega)))
  have S7 := HG.out.size
  refine ⟨⟨_, rfl⟩, ?_, K7.out.trans (Kp.set (show w7.heap[bM]? = _ from M7.out) (by simp) 6 _), ?_, ?_, ?_, .slice (some ⟨g, 0, none⟩) (es.length + 1) cap, ?_, ?_⟩
  · exact (Below.heap_setCell _ _ _ _ hBM).trans ((B7.out B hb1).trans R3.out)
  · simp at S7 ⊢
    have := Z5.out
    omega
  · intro k hk h1 h2
    rw [Below.heap_setCell _ _ _ _ h2, B7.out k hk]
    exact N3.out k hk h1
  · exact ⟨HG.out.os.trans O3.out.1, HG.out.tape.trans O3.out.2.1, HG.out.output.trans O3.out.2.2⟩
  · unfold MB
    rw [heap_setCell_same w7 bM 6 _ _ _ M7.out]
    rfl
  · exact ownsRow_setCell_below HOWN.out hb2 _

end Go.Proofs.Ytdpacbdejfjkcaa
