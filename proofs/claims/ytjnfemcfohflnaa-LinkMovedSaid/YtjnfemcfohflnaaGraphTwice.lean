import Derived.Lib.SlicesCompact
import Derived.Test.YtjnfemcfohflnaaGraphNet
/- Plain Lean: two of one name: what slices.Compact tells of a row in order; which text stands ahead. No program in sight. -/
open Go
namespace Go.Proofs.Ytjnfemcfohflnaa
namespace Gs

/-- the document's textLess -/
def less : Tx → Tx → Bool
  | a :: l, b :: m => if a = b then less l m else decide (a < b)
  | l, m => decide (l.length < m.length)

theorem less_iff : ∀ (l m : Tx), less l m = true ↔ l < m
  | [], [] => by simp [less]
  | [], b :: m => by simp [less]
  | a :: l, [] => by simp [less]
  | a :: l, b :: m => by
    rw [less, List.cons_lt_cons_iff]
    split
    · rename_i e; subst e
      rw [less_iff l m]
      exact ⟨fun h => Or.inr ⟨rfl, h⟩, fun h => h.elim (fun h => absurd h (UInt8.lt_irrefl a)) (fun h => h.2)⟩
    · rename_i e
      rw [decide_eq_true_eq]
      exact ⟨fun h => Or.inl h, fun h => h.elim id (fun h => absurd h.1 e)⟩

theorem keeps_iff {l : List Tx} {j : Nat} (hj : j + 1 < l.length) : Lib.keeps l.toArray (j + 1) = true ↔ l[j + 1] ≠ l[j] := by
  have h1 : l.toArray[j + 1]! = l[j + 1] := by simp [hj]
  have h0 : l.toArray[j + 1 - 1]! = l[j] := by simp [show j < l.length by omega]
  unfold Lib.keeps
  rw [h1, h0, decide_eq_true_eq]
  exact ⟨fun h => h.resolve_left (by omega), Or.inr⟩

/-- a row in order has two of one name just if Compact takes one away -/
theorem compact_lt {l : List Tx} (h : sorted l) : (Lib.compact l).length < l.length ↔ ¬ l.Nodup := by
  constructor
  · intro lt hn
    have all : ∀ j, j < l.length → Lib.keeps l.toArray j = true := by
      intro j hj
      cases j with
      | zero => simp [Lib.keeps]
      | succ j =>
        rw [keeps_iff hj]
        exact fun e => List.pairwise_iff_getElem.1 hn j (j + 1) (by omega) hj (by omega) e.symm
    rw [Lib.compact_all l all] at lt
    exact absurd lt (Nat.lt_irrefl _)
  · intro hn
    apply Classical.byContradiction
    intro lt
    apply hn
    have all : ∀ j, j < l.length → Lib.keeps l.toArray j = true := by
      intro j hj
      apply Classical.byContradiction
      intro no
      apply lt
      unfold Lib.compact Lib.compactUpTo
      rw [List.length_map]
      have := List.length_filter_lt_length_iff_exists.2 ⟨j, List.mem_range.2 hj, no⟩
      rwa [List.length_range] at this
    refine List.pairwise_iff_getElem.2 (fun i j hi hj hij e => ?_)
    cases j with
    | zero => omega
    | succ j =>
      have so := List.pairwise_iff_getElem.1 h
      have ne := (keeps_iff hj).1 (all (j + 1) hj)
      have le1 : l[j] ≤ l[j + 1] := so j (j + 1) (by omega) hj (by omega)
      by_cases q : i = j
      · subst q; exact ne e.symm
      · have le2 : l[i] ≤ l[j] := so i j hi (by omega) (by omega)
        rw [e] at le2
        exact ne (le_anti le2 le1)

/-- two of one name, by Compact at the names in order -/
theorem twice_iff (nm : Nat → Tx) (n : Nat) : (Lib.compact (msort (names nm n))).length < n ↔ ∃ i, i < n ∧ ∃ k, k < i ∧ nm k = nm i := by
  have l : (msort (names nm n)).length = n := by rw [(msort_perm _).length_eq, names_length]
  have c := compact_lt (msort_sorted (names nm n))
  rw [l, (msort_perm _).nodup_iff] at c
  rw [c]
  constructor
  · intro no
    apply Classical.byContradiction
    intro he
    apply no
    refine List.pairwise_iff_getElem.2 (fun i j hi hj hij e => he ⟨j, by rwa [names_length] at hj, i, hij, ?_⟩)
    simpa [names] using e
  · rintro ⟨i, hi, k, hk, e⟩ hn
    refine List.pairwise_iff_getElem.1 hn k i (by rw [names_length]; omega) (by rw [names_length]; exact hi) hk ?_
    simpa [names] using e
end Gs
end Go.Proofs.Ytjnfemcfohflnaa
