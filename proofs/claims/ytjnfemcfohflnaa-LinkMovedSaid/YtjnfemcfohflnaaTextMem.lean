import Derived.Test.YtjnfemcfohflnaaMem
import Derived.Maps.AppendAt
import Derived.OwnWalk
import Derived.RangeFuncBox
/- Rows of texts: those that came in, those of the call's own. -/
namespace Go.Proofs.Ytjnfemcfohflnaa
open Go.RowKit

def strCells (s : ByteArray) : List Value := [.string s]
structure TextsOk (w : World) (A : Option Addr) (l : List ByteArray) : Prop where
  row : Row strCells 1 w A l
  len : l.length ≤ big
  each : ∀ s ∈ l, s.size ≤ big
theorem TextsOk.below {w w' : World} {A : Option Addr} {l : List ByteArray} (h : TextsOk w A l) (hb : Below w.heap.size w w') : TextsOk w' A l := ⟨h.row.below hb, h.len, h.each⟩
theorem text_at {w w' : World} {A : Option Addr} {l : List ByteArray} (h : Row strCells 1 w A l) (hb : Below w.heap.size w w') (i : Nat) (hi : i < l.length) :
    ∃ ad, A = some ad ∧ ad.block < w.heap.size ∧ w'.cell? (ad.add i) = some (.string l[i]) := by
  obtain ⟨ad, rfl, hab, hc⟩ := Row.at_ (enc := strCells) (k := 1) (fun _ => rfl) h i hi
  have e0 := hc 0 _ rfl
  rw [add_zero_, Nat.mul_one] at e0
  exact ⟨ad, rfl, hab, (hb.cell (by rw [block_of_add]; exact hab)).trans e0⟩
theorem box1 {w w0 : World} {a0 : Value} {t : TypeId} (h : w0 = w.alloc (.cells #[a0] t)) : w0.cell? ⟨w.heap.size, 0, none⟩ = some a0 ∧ w0.heap.size = w.heap.size + 1 ∧ Below w.heap.size w w0 := by
  subst h
  refine ⟨by rw [World.cell?_alloc_new]; rfl, by simp, (Below.refl _ _).alloc (Nat.le_refl _) _⟩

/-! Rows of texts of the call's own. -/
def TOwn (w : World) (base : Nat) (v : Value) (l : List ByteArray) : Prop := w.ownsRow base 9 1 v l.length (l.map Value.string)
theorem map_str (l : List ByteArray) : l.map Value.string = l.flatMap strCells := by
  induction l with
  | nil => rfl
  | cons x l ih => simp [List.flatMap_cons, ← ih, strCells]
theorem TOwn.form {w : World} {base : Nat} {v : Value} {l : List ByteArray} (h : TOwn w base v l) : ∃ (A : Option Addr) (c : Nat), v = .slice A l.length c ∧ Row strCells 1 w A l ∧ l.length ≤ c := by
  have hh := h
  rcases h.2 with ⟨rfl, e⟩ | ⟨g, cap, cur, rfl, e2, e3, e4, _⟩
  · rw [e]
    refine ⟨none, 0, rfl, ?_, Nat.le_refl _⟩
    have := Reads.of_own (show w.ownsRow base 9 1 (.slice none 0 0) 0 (l.map Value.string) from by
      have h1 := hh.1
      exact ⟨by rw [h1, e], .inl ⟨rfl, rfl⟩⟩)
    rw [map_str] at this
    unfold Row; rw [e]; exact this
  · refine ⟨some ⟨g, 0, none⟩, cap, rfl, ?_, e4⟩
    have := Reads.of_own hh
    rwa [map_str] at this
theorem TOwn.nil (w : World) (base : Nat) : TOwn w base (.slice none 0 0) [] := World.ownsRow_nil _ _ _ _
theorem TOwn.below {w w' : World} {base B : Nat} {v : Value} {l : List ByteArray} (h : TOwn w base v l) (hb : Below B w w') (hB : w.heap.size ≤ B) : TOwn w' base v l := by
  refine ⟨h.1, ?_⟩
  rcases h.2 with h0 | ⟨g, cap, cur, e1, e2, e3, e4⟩
  · exact .inl h0
  · refine .inr ⟨g, cap, cur, e1, e2, ?_, e4⟩
    have : g < w.heap.size := by
      rcases Nat.lt_or_ge g w.heap.size with hlt | hge
      · exact hlt
      · rw [Array.getElem?_eq_none hge] at e3; cases e3
    rw [hb.block g (by omega)]; exact e3
/-- one element of an own row, written in place -/
theorem TOwn.at_ {w : World} {base : Nat} {A : Option Addr} {n c : Nat} {l : List ByteArray} (h : TOwn w base (.slice A n c) l) (hn : n = l.length) (i : Nat) (hi : i < n) :
    ∃ g, A = some ⟨g, 0, none⟩ ∧ base ≤ g ∧ g < w.heap.size ∧ w.cell? ⟨g, i, none⟩ = some (.string (l.getD i ⟨#[]⟩)) ∧ w.frozen? ⟨g, i, none⟩ = false ∧ ∀ s, TOwn (w.setCell ⟨g, i, none⟩ (.string s)) base (.slice A n c) (l.set i s) := by
  subst hn
  obtain ⟨h1, h2⟩ := h
  rcases h2 with ⟨_, h0⟩ | ⟨g, cap, cur, hv, hg, hb, hnc, hcm, hsz, htk⟩
  · omega
  injection hv with ha hk hc
  subst ha
  have hcs : cur.toList[i]? = some (.string (l.getD i ⟨#[]⟩)) := by
    have : (cur.toList.take (l.length * 1))[i]? = some (.string (l.getD i ⟨#[]⟩)) := by
      rw [htk, List.getElem?_map, List.getD_eq_getElem?_getD, List.getElem?_eq_getElem hi]; rfl
    rwa [List.getElem?_take_of_lt (by omega)] at this
  have hcell : w.cell? ⟨g, i, none⟩ = some (.string (l.getD i ⟨#[]⟩)) := by
    simp only [World.cell?, hb]
    simpa using hcs
  refine ⟨g, rfl, hg, (Array.getElem?_eq_some_iff.1 hb).1, hcell, frozen_of_row _ _ _ _ _ hb, fun s => ?_⟩
  refine ⟨by simp, .inr ⟨g, cap, cur.setIfInBounds i (.string s), ?_, hg, heap_setCell_same w g _ cur _ _ hb, ?_, hcm, by simpa using hsz, ?_⟩⟩
  · rw [← hc]; simp
  · simpa using hnc
  · rw [Array.toList_setIfInBounds, List.take_set, List.length_set, htk, ← List.map_set]
theorem Try.infoStr : (Try.prog.info? 9).map (fun i => (i.zero, i.size, i.bytes)) = some (some (.string ⟨#[]⟩), 1, 16) := by kernel_rfl
theorem append_str (W : World) {ops : Array Oper} {rest : List Oper} {o : Oper} {a : Act} {Q : Exit → Act → World → Prop} (hgd : o.guard = none) (s x : Operand)
    (ho : o.op = .call { callee := .builtin .append, args := #[s, x], argTypes := #[79, 79] }) (base : Nat) (v : Value) (ns : List ByteArray) (n : ByteArray) (hs : a.eval s = v)
    (hx : a.eval x = .slice (some ⟨W.heap.size, 0, none⟩) 1 1) (hown : TOwn W base v ns) (hl : ns.length ≤ 1000000) (hbase : base ≤ W.heap.size)
    (h : ∀ v' w', TOwn w' base v' (ns ++ [n]) → Below base W w' → wpList Try.prog ops Q rest (a.put o.dst v') w') : wpList Try.prog ops Q (o :: rest) a (W.alloc (.cells #[.string n] 9)) := by
  obtain ⟨i0, hi, hz0, hz1, hz2⟩ := info_parts Try.infoStr
  refine wpList_append_own_at (W.alloc (.cells #[.string n] 9)) hgd s x 79 ho base 9 i0 (.string ⟨#[]⟩) 1 16 Try.underlying79 hi hz0 hz1 hz2 rfl (by decide) v ns.length (ns.map Value.string) hs (hown.alloc _) ⟨W.heap.size, 0, none⟩ 1 1 [.string n] hx rfl
    (cell_one_new _ _ _) (by simp [Value.oneCell']) (by simp only [maxLen]; omega) (by omega) (by simp; omega) ?_
  intro v' w1 hown' hgrow _ _
  refine h v' w1 ?_ (((Below.refl base W).alloc hbase _).grown hgrow (by simp; omega) (fun g hg => by
    rcases hown.2 with ⟨rfl, _⟩ | ⟨g', cap, cur, rfl, e2, _⟩
    · simp [Value.ownBlock] at hg
    · simp [Value.ownBlock] at hg; omega))
  unfold TOwn
  simpa using hown'

end Go.Proofs.Ytjnfemcfohflnaa
