import Derived.Test.YtgkpbndeljnjcaaRGrW
import Derived.Test.YtgkpbndeljnjcaaAllW
import Derived.BigRegion
import Derived.Maps.AppendAt
/- The document's table of ways (chapter E): shipfitterref.Reach. -/
namespace Go.Proofs.Ytgkpbndeljnjcaa
open Go.RowKit
open Gs (Tx)
open Gr (Tab)

theorem Try.infoBool : (Try.prog.info? 4).map (fun i => (i.zero, i.size, i.bytes)) = some (some (.bool false), 1, 1) := by kernel_rfl
theorem Try.infoBools : (Try.prog.info? 64).map (fun i => (i.zero, i.size, i.bytes)) = some (some (.slice none 0 0), 1, 24) := by kernel_rfl

/-- a table that lies in blocks from B0 on: block O has its rows' headers, block R i is row i -/
structure Mat (w : World) (B0 n O : Nat) (R C : Nat → Nat) (t : Tab) : Prop where
  row : ∀ i, i < n → w.cell? ⟨O, i, none⟩ = some (.slice (some ⟨R i, 0, none⟩) n (C i))
  cell : ∀ i k, i < n → k < n → w.cell? ⟨R i, k, none⟩ = some (.bool (t.at i k))
  free : ∀ i k, i < n → k < n → w.frozen? ⟨R i, k, none⟩ = false
  one : ∀ i k, i < n → k < n → R i = R k → i = k
  off : ∀ i, i < n → R i ≠ O ∧ B0 ≤ R i
  low : B0 ≤ O
  sq : t.sq n
section
variable {w w' : World} {B0 n O : Nat} {R C : Nat → Nat} {t : Tab}
theorem Mat.lt (h : Mat w B0 n O R C t) {i : Nat} (hi : i < n) : R i < w.heap.size := World.block_lt_of_cell? _ _ (h.cell i i hi hi)
theorem Mat.ltO (h : Mat w B0 n O R C t) {i : Nat} (hi : i < n) : O < w.heap.size := World.block_lt_of_cell? _ _ (h.row i hi)
theorem Mat.drewN (h : Mat w B0 n O R C t) (q : Nat) : Mat (w.drewN q) B0 n O R C t := ⟨h.row, h.cell, h.free, h.one, h.off, h.low, h.sq⟩
theorem Mat.drew (h : Mat w B0 n O R C t) : Mat w.drew B0 n O R C t := ⟨h.row, h.cell, h.free, h.one, h.off, h.low, h.sq⟩
theorem Mat.below {B : Nat} (h : Mat w B0 n O R C t) (hb : Below B w w') (hB : w.heap.size ≤ B) : Mat w' B0 n O R C t where
  row := fun i hi => (hb.cell (p := ⟨O, i, none⟩) (Nat.lt_of_lt_of_le (h.ltO hi) hB)).trans (h.row i hi)
  cell := fun i k hi hk => (hb.cell (p := ⟨R i, k, none⟩) (Nat.lt_of_lt_of_le (h.lt hi) hB)).trans (h.cell i k hi hk)
  free := fun i k hi hk => (hb.frozen (p := ⟨R i, k, none⟩) (Nat.lt_of_lt_of_le (h.lt hi) hB)).trans (h.free i k hi hk)
  one := h.one
  off := h.off
  low := h.low
  sq := h.sq
theorem Mat.store {i k : Nat} (h : Mat w B0 n O R C t) (hi : i < n) (hk : k < n) {v : Bool} {t' : Tab} (hs : t'.sq n) (ht : ∀ a b, t'.at a b = if a = i ∧ b = k then v else t.at a b) : Mat (w.setCell ⟨R i, k, none⟩ (.bool v)) B0 n O R C t' where
  row := fun a ha => by
    rw [World.cell?_setCell_far _ _ _ _ (show R i ≠ O from (h.off i hi).1)]
    exact h.row a ha
  cell := fun a b ha hb => by
    rw [ht]
    by_cases e : a = i ∧ b = k
    · obtain ⟨rfl, rfl⟩ := e
      rw [if_pos ⟨rfl, rfl⟩]
      exact World.cell?_setCell_same _ _ _ (h.cell a b ha hb)
    · rw [if_neg e, World.cell?_setCell_other _ _ _ _ (fun q => by
        injection q with q1 q2 _
        exact e ⟨(h.one i a hi ha q1).symm, q2.symm⟩)]
      exact h.cell a b ha hb
  free := fun a b ha hb => by rw [World.frozen?_setCell]; exact h.free a b ha hb
  one := h.one
  off := h.off
  low := h.low
  sq := hs
theorem Mat.fill {m i k : Nat} (h : Mat w B0 n O R C t) (hi : i < n) (hk : k < n) {v : Bool} (hv : v = (t.at i k || t.at i m && t.at m k)) : Mat (w.setCell ⟨R i, k, none⟩ (.bool v)) B0 n O R C (Tab.fill m i k t) :=
  h.store hi hk (Tab.fill_sq h.sq hi) (fun a b => by rw [Tab.fill_at h.sq hi hk, hv])
end
/-- a value that is such a table -/
def MatV (w : World) (B0 : Nat) (v : Value) (n : Nat) (t : Tab) : Prop := ∃ (A : Option Addr) (c : Nat), v = .slice A n c ∧ (0 < n → ∃ O R C, A = some ⟨O, 0, none⟩ ∧ Mat w B0 n O R C t)

/-- the turns of the three loops, so far -/
def tK (m i : Nat) (t : Tab) (k : Nat) : Tab := (List.range k).foldl (fun t k => Tab.fill m i k t) t
def tI (n m : Nat) (t : Tab) (i : Nat) : Tab := (List.range i).foldl (fun t i => Tab.row n m i t) t
def tM (n : Nat) (t : Tab) (m : Nat) : Tab := (List.range m).foldl (fun t m => Tab.phase n m t) t
theorem tK_succ (m i : Nat) (t : Tab) (k : Nat) : tK m i t (k + 1) = Tab.fill m i k (tK m i t k) := by unfold tK; rw [List.range_succ, List.foldl_append]; rfl
theorem tI_succ (n m : Nat) (t : Tab) (i : Nat) : tI n m t (i + 1) = tK m i (tI n m t i) n := by unfold tI; rw [List.range_succ, List.foldl_append]; rfl
theorem tM_succ (n : Nat) (t : Tab) (m : Nat) : tM n t (m + 1) = tI n m (tM n t m) n := by unfold tM; rw [List.range_succ, List.foldl_append]; rfl

/-! ### its first part: row by row -/
theorem own_cell {w : World} {base g n c : Nat} {e : TypeId} {xs : List Value} (h : w.ownsRow base e 1 (.slice (some ⟨g, 0, none⟩) n c) n xs) :
    (∀ k u, xs[k]? = some u → w.cell? ⟨g, k, none⟩ = some u) ∧ (∀ k, w.frozen? ⟨g, k, none⟩ = false) ∧ base ≤ g ∧ g < w.heap.size := by
  have hl := World.ownsRow.lt h g rfl
  have hc := h.cells (g := g) rfl
  refine ⟨fun k u hu => ?_, fun k => ?_, hl.1, hl.2⟩
  · have := hc k u hu
    have e : (⟨g, 0, none⟩ : Addr).add k = ⟨g, k, none⟩ := by unfold Addr.add; split <;> simp_all
    rwa [e] at this
  · rcases h.2 with ⟨h0, _⟩ | ⟨g', cap, cur, hv, _, hb, _⟩
    · cases h0
    · injection hv with ha _ _
      injection ha with ha
      injection ha with ha _ _
      subst ha
      exact frozen_of_row _ _ _ _ _ hb
def BR (w : World) (base : Nat) (v : Value) (bl : List Bool) : Prop := w.ownsRow base 4 1 v bl.length (bl.map Value.bool)
theorem own_at_lt {w w' : World} {base size n B : Nat} {e : TypeId} {v : Value} {xs : List Value} (h : w.ownsRow base e size v n xs) (hb : Below B w w') (hlt : ∀ g, v.ownBlock = some g → g < B) : w'.ownsRow base e size v n xs := by
  refine ⟨h.1, ?_⟩
  rcases h.2 with h0 | ⟨g, cap, cur, e1, e2, e3, e4⟩
  · exact .inl h0
  · refine .inr ⟨g, cap, cur, e1, e2, ?_, e4⟩
    rw [hb.block g (hlt g (by rw [e1]; rfl))]; exact e3
theorem own_more {w : World} {base base' size n : Nat} {e : TypeId} {v : Value} {xs : List Value} (h : w.ownsRow base e size v n xs) (hB : base' ≤ base) : w.ownsRow base' e size v n xs := by
  refine ⟨h.1, ?_⟩
  rcases h.2 with h0 | ⟨g, cap, cur, e1, e2, e3⟩
  · exact .inl h0
  · exact .inr ⟨g, cap, cur, e1, by omega, e3⟩
theorem append_bool (W : World) {ops : Array Oper} {rest : List Oper} {o : Oper} {a : Act} {Q : Exit → Act → World → Prop} (hgd : o.guard = none) (s x : Operand)
    (ho : o.op = .call { callee := .builtin .append, args := #[s, x], argTypes := #[64, 64] }) (base : Nat) (v : Value) (ns : List Bool) (n : Bool) (hs : a.eval s = v)
    (hx : a.eval x = .slice (some ⟨W.heap.size, 0, none⟩) 1 1) (hown : BR W base v ns) (hl : ns.length ≤ 1000000) (hbase : base ≤ W.heap.size)
    (h : ∀ v' w', BR w' base v' (ns ++ [n]) → Below base W w' → wpList Try.prog ops Q rest (a.put o.dst v') w') : wpList Try.prog ops Q (o :: rest) a (W.alloc (.cells #[.bool n] 4)) := by
  obtain ⟨i0, hi, hz0, hz1, hz2⟩ := info_parts Try.infoBool
  refine wpList_append_own_at (W.alloc (.cells #[.bool n] 4)) hgd s x 64 ho base 4 i0 (.bool false) 1 1 Try.underlying64 hi hz0 hz1 hz2 rfl (by decide) v ns.length (ns.map Value.bool) hs (hown.alloc _) ⟨W.heap.size, 0, none⟩ 1 1 [.bool n] hx rfl
    (cell_one_new _ _ _) (by simp [Value.oneCell']) (by simp only [maxLen]; omega) (by omega) (by simp; omega) ?_
  intro v' w1 hown' hgrow _ _
  refine h v' w1 ?_ (((Below.refl base W).alloc hbase _).grown hgrow (by simp; omega) (own_base hown))
  unfold BR
  simpa using hown'
/-- the headers of some rows -/
def heads (n : Nat) (R C : Nat → Nat) (i : Nat) : List Value := (List.range i).map (fun a => .slice (some ⟨R a, 0, none⟩) n (C a))
theorem heads_length (n : Nat) (R C : Nat → Nat) (i : Nat) : (heads n R C i).length = i := by simp [heads]
theorem append_head (W : World) {ops : Array Oper} {rest : List Oper} {o : Oper} {a : Act} {Q : Exit → Act → World → Prop} (hgd : o.guard = none) (s x : Operand)
    (ho : o.op = .call { callee := .builtin .append, args := #[s, x], argTypes := #[62, 62] }) (base : Nat) (v : Value) (n i : Nat) (R C : Nat → Nat) (u : Value) (hu : u.oneCell' = true) (hs : a.eval s = v)
    (hx : a.eval x = .slice (some ⟨W.heap.size, 0, none⟩) 1 1) (hown : W.ownsRow base 64 1 v i (heads n R C i)) (hl : i ≤ 1000000) (hbase : base ≤ W.heap.size)
    (h : ∀ v' w', w'.ownsRow base 64 1 v' (i + 1) (heads n R C i ++ [u]) → W.grownBy w' v.ownBlock → (v'.ownBlock = v.ownBlock ∨ ∃ g, v'.ownBlock = some g ∧ W.heap.size ≤ g) → wpList Try.prog ops Q rest (a.put o.dst v') w') : wpList Try.prog ops Q (o :: rest) a (W.alloc (.cells #[u] 64)) := by
  obtain ⟨i0, hi, hz0, hz1, hz2⟩ := info_parts Try.infoBools
  refine wpList_append_own_at (W.alloc (.cells #[u] 64)) hgd s x 62 ho base 64 i0 (.slice none 0 0) 1 24 Try.underlying62 hi hz0 hz1 hz2 rfl (by decide) v i (heads n R C i) hs (hown.alloc _) ⟨W.heap.size, 0, none⟩ 1 1 [u] hx rfl
    (cell_one_new _ _ _) (by simp [hu]) (by simp only [maxLen]; omega) (by omega) (by simp; omega) ?_
  intro v' w1 hown' hgrow _ hnew
  refine h v' w1 hown' ((World.grownBy_alloc W _ _).trans hgrow) ?_
  rcases hnew with e | e
  · exact .inl e
  · exact .inr ⟨_, e, by simp⟩

theorem dirN_at {l : List Plc} {i k : Nat} (hi : i < l.length) (hk : k < l.length) : dirN l i k = asks l[i].m (tx l[k].m.name) := by
  unfold dirN
  rw [List.getElem?_eq_getElem hi]
  show asks l[i].m (nmN l k) = _
  rw [nmN_at hk]
def rowN (l : List Plc) (i k : Nat) : List Bool := (List.range k).map (dirN l i)
theorem rowN_length (l : List Plc) (i k : Nat) : (rowN l i k).length = k := by simp [rowN]
theorem rowN_succ (l : List Plc) (i k : Nat) : rowN l i (k + 1) = rowN l i k ++ [dirN l i k] := by unfold rowN; rw [List.range_succ, List.map_append]; rfl

/-- i rows are made -/
structure Outer (l : List Plc) (w : World) (v : Value) (i : Nat) (wr : World) : Prop where
  rows : ∃ R C : Nat → Nat, wr.ownsRow w.heap.size 64 1 v i (heads l.length R C i) ∧ (∀ a, a < i → BR wr w.heap.size (.slice (some ⟨R a, 0, none⟩) l.length (C a)) (rowN l a l.length)) ∧
    (∀ a b, a < i → b < i → R a = R b → a = b) ∧ (∀ a, a < i → v.ownBlock ≠ some (R a))
  bel : Below w.heap.size w wr
theorem Outer.start (l : List Plc) (w : World) : Outer l w (.slice none 0 0) 0 w := ⟨⟨fun _ => 0, fun _ => 0, World.ownsRow_nil _ _ _ _, fun _ h => by omega, fun _ _ h => by omega, fun _ h => by omega⟩, Below.refl _ _⟩
theorem Outer.mat {l : List Plc} {w wr : World} {v : Value} (h : Outer l w v l.length wr) : MatV wr w.heap.size v l.length (Tab.mk (dirN l) l.length) := by
  obtain ⟨R, C, ho, hr, h1, h2⟩ := h.rows
  obtain ⟨A, c, rfl⟩ := own_slice ho
  refine ⟨A, c, rfl, fun hn => ?_⟩
  obtain ⟨g, cap, hv, _⟩ := ho.form hn
  injection hv with hA _ hc
  subst hA hc
  obtain ⟨q1, q2, q3, q4⟩ := own_cell ho
  have hB : ∀ a, a < l.length → _ := fun a ha => own_cell (show wr.ownsRow w.heap.size 4 1 (.slice (some ⟨R a, 0, none⟩) l.length (C a)) l.length ((rowN l a l.length).map Value.bool) from by
    have := hr a ha; unfold BR at this; rwa [rowN_length] at this)
  refine ⟨g, R, C, rfl, fun i hi => q1 i _ (by simp [heads, hi]), fun i k hi hk => (hB i hi).1 k _ (by simp [rowN, Tab.mk_at _ hi hk, hk]), fun i k hi hk => (hB i hi).2.1 k, h1,
    fun i hi => ⟨fun e => h2 i hi (by simp [Value.ownBlock, e]), (hB i hi).2.2.1⟩, q3, Tab.mk_sq _ _⟩
theorem Outer.step {l : List Plc} {w wr w2 w3 : World} {v v' : Value} {i g c : Nat} {R C : Nat → Nat} (hbel : Below w.heap.size w wr) (ho : wr.ownsRow w.heap.size 64 1 v i (heads l.length R C i)) (hr : ∀ a, a < i → BR wr w.heap.size (.slice (some ⟨R a, 0, none⟩) l.length (C a)) (rowN l a l.length))
    (h1 : ∀ a b, a < i → b < i → R a = R b → a = b) (h2 : ∀ a, a < i → v.ownBlock ≠ some (R a)) (hb : Below wr.heap.size wr w2) (hg : BR w2 wr.heap.size (.slice (some ⟨g, 0, none⟩) l.length c) (rowN l i l.length))
    (hown : w3.ownsRow w.heap.size 64 1 v' (i + 1) (heads l.length R C i ++ [.slice (some ⟨g, 0, none⟩) l.length c])) (hgr : w2.grownBy w3 v.ownBlock) (hnew : v'.ownBlock = v.ownBlock ∨ ∃ q, v'.ownBlock = some q ∧ w2.heap.size ≤ q) : Outer l w v' (i + 1) w3 := by
  have hz := hbel.size
  have hgl := World.ownsRow.lt hg g rfl
  have hgr' : ∀ q, v.ownBlock = some q → w.heap.size ≤ q ∧ q < wr.heap.size := fun q hq => World.ownsRow.lt ho q hq
  have hvg : v.ownBlock ≠ some g := fun e => by have := (hgr' g e).2; omega
  refine ⟨⟨fun a => if a = i then g else R a, fun a => if a = i then c else C a, ?_, fun a ha => ?_, fun a b ha hb' e => ?_, fun a ha => ?_⟩, ?_⟩
  · have e : heads l.length (fun a => if a = i then g else R a) (fun a => if a = i then c else C a) (i + 1) = heads l.length R C i ++ [.slice (some ⟨g, 0, none⟩) l.length c] := by
      unfold heads
      rw [List.range_succ, List.map_append]
      congr 1
      · refine List.map_congr_left (fun a ha => ?_)
        have := List.mem_range.1 ha
        simp [show a ≠ i by omega]
      · simp
    rw [e]; exact hown
  · by_cases e : a = i
    · subst e
      simp only [if_true]
      exact (own_more hg hz).kept hgr (.inr (fun q => hvg q.symm))
    · simp only [if_neg e]
      have h3 := own_below (hr a (by omega)) hb (Nat.le_refl _)
      exact h3.kept hgr (.inr (fun q => h2 a (by omega) q.symm))
  · have hlt : ∀ a, a < i → R a < wr.heap.size := fun a ha => (World.ownsRow.lt (hr a ha) (R a) rfl).2
    dsimp only at e
    by_cases ea : a = i <;> by_cases eb : b = i
    · omega
    · rw [if_pos ea, if_neg eb] at e; have := hlt b (by omega); omega
    · rw [if_neg ea, if_pos eb] at e; have := hlt a (by omega); omega
    · rw [if_neg ea, if_neg eb] at e; exact h1 a b (by omega) (by omega) e
  · have hlt : ∀ a, a < i → R a < wr.heap.size := fun a ha => (World.ownsRow.lt (hr a ha) (R a) rfl).2
    have hs := hb.size
    rcases hnew with en | ⟨q, en, hq⟩
    · rw [en]
      by_cases ea : a = i
      · simp only [if_pos ea]; exact hvg
      · simp only [if_neg ea]; exact h2 a (by omega)
    · rw [en]
      by_cases ea : a = i
      · simp only [if_pos ea]; intro e; injection e with e; omega
      · simp only [if_neg ea]; intro e; injection e with e; have := hlt a (by omega); omega
  · exact (hbel.trans (hb.mono hz)).grown hgr (by have := hb.size; omega) (fun q hq => (hgr' q hq).1)

end Go.Proofs.Ytgkpbndeljnjcaa
