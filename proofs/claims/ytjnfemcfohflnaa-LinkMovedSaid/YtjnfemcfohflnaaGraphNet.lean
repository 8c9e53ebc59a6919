import Derived.Test.YtjnfemcfohflnaaGraphLess
/- Plain Lean: needs and users, by the code and by the document (chapter E): one and the same row. No program in sight. -/
open Go
namespace Go.Proofs.Ytjnfemcfohflnaa
namespace Gs

theorem way_first {d : Nat → Nat → Bool} {n i k : Nat} (w : Gr.Way d n i k) : d i k = true ∨ ∃ j, j < n ∧ d i j = true ∧ Gr.Way d n j k := by
  induction w with
  | base e => exact Or.inl e
  | @thru i j k hj _ b ih _ =>
    rcases ih with q | ⟨j', hj', q, w⟩
    · exact Or.inr ⟨j, hj, q, b⟩
    · exact Or.inr ⟨j', hj', q, .thru hj w b⟩

/-- the document's table and the direct needs make a net -/
theorem net_of {nm : Nat → Tx} {r : Tx → Tx → Bool} {d : Nat → Nat → Bool} {n : Nat} (dir : ∀ i k, i < n → k < n → r (nm i) (nm k) = d i k)
    (one : ∀ i k, i < n → k < n → nm i = nm k → i = k) : Net nm r d (Gr.Tab.all n (Gr.Tab.mk d n)).at (Gr.Way d n) n where
  dir := dir
  one := one
  tab := fun _ _ hi hk => Gr.Tab.all_at d hi hk
  base := fun _ _ _ _ e => .base e
  trans := fun _ _ _ hj a b => .thru hj a b
  first := fun _ _ _ _ w => way_first w

def names (nm : Nat → Tx) (n : Nat) : List Tx := (List.range n).map nm

theorem names_mem {nm : Nat → Tx} {n i : Nat} (hi : i < n) : nm i ∈ names nm n := List.mem_map.2 ⟨i, List.mem_range.2 hi, rfl⟩
theorem names_getD {nm : Nat → Tx} {n i : Nat} (hi : i < n) : (names nm n).getD i [] = nm i := by
  simp [names, List.getD_eq_getElem?_getD, hi]
theorem names_length (nm : Nat → Tx) (n : Nat) : (names nm n).length = n := by simp [names]

theorem step_perm {N : Type} {a b : List N} {r : N → N → Bool} (h : ∀ x, x ∈ a ↔ x ∈ b) (x y : N) :
    Relation.TransGen (Gr.Step a r) x y ↔ Relation.TransGen (Gr.Step b r) x y := by
  have e : Gr.Step a r = Gr.Step b r := by funext x y; unfold Gr.Step; rw [h y]
  rw [e]

/-- come to, told by the table -/
theorem trans_tab {nm : Nat → Tx} {r : Tx → Tx → Bool} {d : Nat → Nat → Bool} {n : Nat} (dir : ∀ i k, i < n → k < n → r (nm i) (nm k) = d i k)
    {i k : Nat} (hi : i < n) (hk : k < n) : Relation.TransGen (Gr.Step (names nm n) r) (nm i) (nm k) ↔ (Gr.Tab.all n (Gr.Tab.mk d n)).at i k = true := by
  have l := names_length nm n
  have t := Gr.trans_names (l := names nm n) (r := r) (d := d) [] (fun a b ha hb => by rw [l] at ha hb; rw [names_getD ha, names_getD hb, dir a b ha hb]) (i := i) (k := k) (by omega) (by omega)
  rw [names_getD hi, names_getD hk, l] at t
  rw [← t, ← Gr.way_iff hk, Gr.Tab.all_at d hi hk]

/-- Needs: what the code hands back is what the document says -/
theorem needs_eq {nm : Nat → Tx} {r : Tx → Tx → Bool} {d : Nat → Nat → Bool} {n p f : Nat} (dir : ∀ i k, i < n → k < n → r (nm i) (nm k) = d i k) (hp : p < n) (hf : n + 1 ≤ f) :
    (msort (names nm n)).filter (fun x => decide (x ∈ Gr.visit (msort (names nm n)) r f [] (nm p))) = msort (((List.range n).filter (fun i => (Gr.Tab.all n (Gr.Tab.mk d n)).at p i)).map nm) := by
  rw [msort_filter]
  congr 1
  rw [names, List.filter_map]
  congr 1
  apply List.filter_congr
  intro i hi
  have hi' := List.mem_range.1 hi
  have v := Gr.visit_iff (all := msort (names nm n)) (r := r) (f := f) (a := nm p) (by rw [(msort_perm _).length_eq, names_length]; exact hf) (nm i)
  rw [step_perm (fun x => msort_mem (names nm n) x), trans_tab dir hp hi'] at v
  rw [Bool.eq_iff_iff]
  simpa [names] using v

/-- Users: the other way round -/
theorem users_eq {nm : Nat → Tx} {r : Tx → Tx → Bool} {d : Nat → Nat → Bool} {n p f : Nat} (dir : ∀ i k, i < n → k < n → r (nm i) (nm k) = d i k) (hp : p < n) (hf : n + 1 ≤ f) :
    (msort (names nm n)).filter (fun x => decide (x ∈ Gr.visit (msort (names nm n)) (fun a b => r b a) f [] (nm p))) = msort (((List.range n).filter (fun i => (Gr.Tab.all n (Gr.Tab.mk d n)).at i p)).map nm) := by
  rw [msort_filter]
  congr 1
  rw [names, List.filter_map]
  congr 1
  apply List.filter_congr
  intro i hi
  have hi' := List.mem_range.1 hi
  have v := Gr.visit_iff (all := msort (names nm n)) (r := fun a b => r b a) (f := f) (a := nm p) (by rw [(msort_perm _).length_eq, names_length]; exact hf) (nm i)
  rw [step_perm (fun x => msort_mem (names nm n) x), ← turned_iff (r := r) (names_mem hi') (names_mem hp), trans_tab dir hi' hp] at v
  rw [Bool.eq_iff_iff]
  simpa [names] using v

end Gs
end Go.Proofs.Ytjnfemcfohflnaa
