import Derived.Below
import Derived.Test.YtjnfemcfohflnaaPure
/- Plain Lean: rows of texts in order (chapter E): the library's sort and the document's tell one and the same. No program in sight. -/
open Go
namespace Go.Proofs.Ytjnfemcfohflnaa
namespace Gs

abbrev Tx := List UInt8

theorem le_trans' {a b c : Tx} (h : a ≤ b) (k : b ≤ c) : a ≤ c := List.le_trans h k
theorem le_total' (a b : Tx) : a ≤ b ∨ b ≤ a := List.le_total a b
theorem le_anti {a b : Tx} (h : a ≤ b) (k : b ≤ a) : a = b := List.le_antisymm h k
theorem le_of_not {a b : Tx} (h : ¬ a < b) : b ≤ a := List.not_lt.1 h
theorem le_of_lt' {a b : Tx} (h : a < b) : a ≤ b := List.le_of_lt h

def sorted (l : List Tx) : Prop := l.Pairwise (fun a b => a ≤ b)
def msort (l : List Tx) : List Tx := l.mergeSort (fun x y => decide (x ≤ y))

theorem msort_perm (l : List Tx) : (msort l).Perm l := List.mergeSort_perm _ _
theorem msort_sorted (l : List Tx) : sorted (msort l) := by
  have h := List.pairwise_mergeSort (le := fun x y : Tx => decide (x ≤ y)) (fun a b c h k => by simp only [decide_eq_true_eq] at *; exact le_trans' h k) (fun a b => by simpa using le_total' a b) l
  exact h.imp (fun h => by simpa using h)

/-- two rows in order that hold the same are the same -/
theorem eq_of_sorted : ∀ {a b : List Tx}, a.Perm b → sorted a → sorted b → a = b
  | [], b, p, _, _ => (List.nil_perm.1 p).symm
  | x :: a, [], p, _, _ => absurd (List.Perm.symm p) (by simp)
  | x :: a, y :: b, p, ha, hb => by
    have ha' := List.pairwise_cons.1 ha
    have hb' := List.pairwise_cons.1 hb
    have e : x = y := by
      have m1 : x ∈ y :: b := p.subset List.mem_cons_self
      have m2 : y ∈ x :: a := p.symm.subset List.mem_cons_self
      rcases List.mem_cons.1 m1 with h | h
      · exact h
      · rcases List.mem_cons.1 m2 with k | k
        · exact k.symm
        · exact le_anti (ha'.1 y k) (hb'.1 x h)
    subst e
    rw [eq_of_sorted (List.Perm.cons_inv p) ha'.2 hb'.2]

theorem eq_msort {a b : List Tx} (p : a.Perm b) (h : sorted a) : a = msort b := eq_of_sorted (p.trans (msort_perm b).symm) h (msort_sorted b)

theorem msort_filter (l : List Tx) (p : Tx → Bool) : (msort l).filter p = msort (l.filter p) :=
  eq_msort ((msort_perm l).filter p) ((msort_sorted l).sublist List.filter_sublist)

theorem msort_mem (l : List Tx) (x : Tx) : x ∈ msort l ↔ x ∈ l := (msort_perm l).mem_iff

/-! ### the document's sort -/
/-- one text brought back to its place behind a row in order -/
def ins (x : Tx) : List Tx → List Tx
  | [] => [x]
  | y :: l => if x < y then x :: y :: l else y :: ins x l

/-- the deed itself: from place k back -/
def sink : Nat → List Tx → List Tx
  | 0, l => l
  | k + 1, l => if l.getD (k + 1) [] < l.getD k [] then sink k ((l.set (k + 1) (l.getD k [])).set k (l.getD (k + 1) [])) else l

/-- sink, told at a row whose first k are A -/
def back (x : Tx) : List Tx → List Tx  -- A turned round
  | [] => [x]
  | y :: l => if x < y then back x l ++ [y] else l.reverse ++ [y, x]

theorem sink_eq (x : Tx) (R : List Tx) : ∀ (B : List Tx), sink B.length (B.reverse ++ x :: R) = back x B ++ R
  | [] => by simp [sink, back]
  | y :: B => by
    have e1 : (y :: B).reverse ++ x :: R = B.reverse ++ y :: x :: R := by simp
    have g1 : (B.reverse ++ y :: x :: R).getD (B.length + 1) [] = x := by
      rw [List.getD_eq_getElem?_getD, List.getElem?_append_right (by simp)]; simp
    have g0 : (B.reverse ++ y :: x :: R).getD B.length [] = y := by
      rw [List.getD_eq_getElem?_getD, List.getElem?_append_right (by simp)]; simp
    rw [e1, List.length_cons, sink, g1, g0, back]
    split
    · have s1 : ((B.reverse ++ y :: x :: R).set (B.length + 1) y).set B.length x = B.reverse ++ x :: (y :: R) := by
        rw [List.set_append_right _ _ (by simp), List.set_append_right _ _ (by simp)]; simp
      rw [s1, sink_eq x (y :: R) B]; simp
    · simp

theorem back_perm (x : Tx) : ∀ (B : List Tx), (back x B).Perm (x :: B)
  | [] => List.Perm.refl _
  | y :: B => by
    rw [back]; split
    · have p1 : (back x B ++ [y]).Perm ((x :: B) ++ [y]) := (back_perm x B).append_right [y]
      exact p1.trans (by simp only [List.cons_append]; exact (List.perm_append_comm (l₁ := B) (l₂ := [y])).cons x)
    · have p1 : (B.reverse ++ [y, x]).Perm (B ++ [y, x]) := (List.reverse_perm B).append_right _
      refine p1.trans ((List.perm_append_comm (l₁ := B) (l₂ := [y, x])).trans ?_)
      exact List.Perm.swap x y B

theorem back_sorted (x : Tx) : ∀ (B : List Tx), sorted B.reverse → sorted (back x B)
  | [], _ => List.pairwise_singleton _ _
  | y :: B, h => by
    rw [List.reverse_cons] at h
    have h' := List.pairwise_append.1 h
    rw [back]; split
    · rename_i lt
      refine List.pairwise_append.2 ⟨back_sorted x B h'.1, List.pairwise_singleton _ _, fun a ha b hb => ?_⟩
      rw [List.mem_singleton.1 hb]
      rcases List.mem_cons.1 ((back_perm x B).mem_iff.1 ha) with q | q
      · rw [q]; exact le_of_lt' lt
      · exact h'.2.2 a (List.mem_reverse.2 q) y List.mem_cons_self
    · rename_i lt
      have yx : y ≤ x := le_of_not lt
      refine List.pairwise_append.2 ⟨h'.1, by simpa using yx, fun a ha b hb => ?_⟩
      have ay := h'.2.2 a ha y List.mem_cons_self
      rcases List.mem_cons.1 hb with q | q
      · rw [q]; exact ay
      · rw [List.mem_singleton.1 q]; exact le_trans' ay yx

/-- sortTexts, c of its turns done -/
def turns (l : List Tx) (c : Nat) : List Tx := (List.range c).foldl (fun l i => sink (i + 1) l) l

/-- after c turns: the first c + 1 in order, the others as they were -/
theorem turns_tells (l : List Tx) : ∀ (c : Nat), c < l.length → ∃ A, (turns l c) = A ++ l.drop (c + 1) ∧ A.Perm (l.take (c + 1)) ∧ sorted A
  | 0, h => by
    cases l with
    | nil => exact absurd h (by simp)
    | cons x l => exact ⟨[x], by simp [turns], by simp, List.pairwise_singleton _ _⟩
  | c + 1, h => by
    obtain ⟨A, e, p, s⟩ := turns_tells l c (by omega)
    have hA : A.length = c + 1 := by rw [p.length_eq, List.length_take]; omega
    have hd : l.drop (c + 1) = l[c + 1] :: l.drop (c + 2) := List.drop_eq_getElem_cons h
    have k := sink_eq l[c + 1] (l.drop (c + 2)) A.reverse
    rw [List.length_reverse, List.reverse_reverse, hA] at k
    refine ⟨back l[c + 1] A.reverse, ?_, ?_, back_sorted _ _ (by rwa [List.reverse_reverse])⟩
    · unfold turns at e ⊢
      rw [List.range_succ, List.foldl_append, List.foldl_cons, List.foldl_nil, e, hd, k]
    · have t : l.take (c + 2) = l.take (c + 1) ++ [l[c + 1]] := by rw [List.take_succ_eq_append_getElem h]
      rw [t]
      refine (back_perm _ _).trans ?_
      exact (((List.reverse_perm A).trans p).cons _).trans (List.perm_append_comm (l₁ := [l[c + 1]]) (l₂ := l.take (c + 1)))

/-- the document's sort is the library's -/
theorem turns_all (l : List Tx) : turns l (l.length - 1) = msort l := by
  cases l with
  | nil => simp [turns, msort]
  | cons x r =>
    obtain ⟨A, e, p, s⟩ := turns_tells (x :: r) ((x :: r).length - 1) (by simp)
    have h1 : (x :: r).length - 1 + 1 = (x :: r).length := by simp
    rw [h1, List.drop_length, List.append_nil] at e
    rw [h1, List.take_length] at p
    rw [e]; exact eq_msort p s

end Gs
end Go.Proofs.Ytjnfemcfohflnaa
