import Derived.Test.YtjnfemcfohflnaaGraphSort
/- Plain Lean: the order of modules (chapter E): the code's, that takes the first free one, and the document's, that takes the least ready one, are one. No program in sight. -/
open Go
namespace Go.Proofs.Ytjnfemcfohflnaa
namespace Gs

/-- none of those that are left is needed by it -/
def free (r : Tx → Tx → Bool) (left : List Tx) (a : Tx) : Bool := left.all (fun b => !r a b)

/-- the code's order: the first free one of the left, again and again -/
def order (r : Tx → Tx → Bool) : Nat → List Tx → List Tx → Option (List Tx)
  | 0, _, out => some out
  | f + 1, left, out => if left.findIdx (free r left) < left.length then order r f (left.eraseIdx (left.findIdx (free r left))) (out ++ [left.getD (left.findIdx (free r left)) []]) else none

theorem first_some (p : Tx → Bool) : ∀ {l : List Tx} {a : Tx}, l.find? p = some a → l.findIdx p < l.length ∧ l.getD (l.findIdx p) [] = a ∧ l.eraseIdx (l.findIdx p) = l.erase a
  | x :: l, a, h => by
    by_cases c : p x = true
    · rw [List.find?_cons_of_pos c] at h
      have e : x = a := Option.some.inj h
      subst e
      rw [List.findIdx_cons, c]; simp
    · have c' : p x = false := by simpa using c
      rw [List.find?_cons_of_neg c] at h
      obtain ⟨h1, h2, h3⟩ := first_some p h
      have ne : x ≠ a := fun e => by subst e; exact c (List.find?_some h)
      rw [List.findIdx_cons, c']
      simp only [cond_false, List.length_cons]
      refine ⟨by omega, by simpa using h2, ?_⟩
      rw [List.eraseIdx_cons_succ, h3, List.erase_cons_tail (by simpa using ne)]

theorem first_none (p : Tx → Bool) {l : List Tx} (h : l.find? p = none) : ¬ l.findIdx p < l.length := by
  intro k
  have := List.findIdx_lt_length.1 k
  obtain ⟨x, hx, px⟩ := this
  exact absurd px (List.find?_eq_none.1 h x hx)

theorem order_some {r : Tx → Tx → Bool} {f : Nat} {left out : List Tx} {a : Tx} (h : left.find? (free r left) = some a) : order r (f + 1) left out = order r f (left.erase a) (out ++ [a]) := by
  obtain ⟨h1, h2, h3⟩ := first_some _ h
  rw [order, if_pos h1, h2, h3]
theorem order_none {r : Tx → Tx → Bool} {f : Nat} {left out : List Tx} (h : left.find? (free r left) = none) : order r (f + 1) left out = none := by
  rw [order, if_neg (first_none _ h)]

/-! ### the document's order -/
section Doc
variable (nm : Nat → Tx) (t : Nat → Nat → Bool) (n : Nat)

instance (b : Option Nat) (i : Nat) : Decidable (∀ j, b = some j → nm i < nm j) := by
  cases b with
  | none => exact isTrue (fun j h => by cases h)
  | some k => exact decidable_of_iff (nm i < nm k) ⟨fun h j e => by cases e; exact h, fun h => h k rfl⟩

def ready (done : List Bool) (i : Nat) : Bool := !done.getD i false && (List.range n).all (fun k => !t i k || done.getD k false)
def bestTo (done : List Bool) (c : Nat) : Option Nat := (List.range c).foldl (fun b i => if ready t n done i = true ∧ (∀ j, b = some j → nm i < nm j) then some i else b) none
def docOrder : Nat → List Bool → List Tx → List Tx
  | 0, _, out => out
  | f + 1, done, out => match bestTo nm t n done n with
    | some b => docOrder f (done.set b true) (out ++ [nm b])
    | none => out

end Doc

theorem perm_take {p q : Nat → Bool} {j : Nat} (hp : p j = true) (hq : q j = false) (he : ∀ i, i ≠ j → q i = p i) : ∀ {l : List Nat}, l.Nodup → j ∈ l → (l.filter p).Perm (j :: l.filter q)
  | x :: l, hn, hj => by
    have hn' := List.nodup_cons.1 hn
    by_cases e : x = j
    · subst e
      have same : l.filter q = l.filter p := List.filter_congr (fun i hi => he i (fun e => hn'.1 (e ▸ hi)))
      rw [List.filter_cons_of_pos hp, List.filter_cons_of_neg (by simp [hq]), same]
    · have hj' : j ∈ l := by
        rcases List.mem_cons.1 hj with h | h
        · exact absurd h.symm e
        · exact h
      have ih := perm_take hp hq he hn'.2 hj'
      by_cases c : p x = true
      · rw [List.filter_cons_of_pos c, List.filter_cons_of_pos (by rw [he x e]; exact c)]
        exact (ih.cons x).trans (List.Perm.swap j x _)
      · rw [List.filter_cons_of_neg c, List.filter_cons_of_neg (by rw [he x e]; exact c)]
        exact ih

/-- what the two orders share: d tells direct needs, t (and W) needs through others too -/
structure Net (nm : Nat → Tx) (r : Tx → Tx → Bool) (d t : Nat → Nat → Bool) (W : Nat → Nat → Prop) (n : Nat) : Prop where
  dir : ∀ i k, i < n → k < n → r (nm i) (nm k) = d i k
  one : ∀ i k, i < n → k < n → nm i = nm k → i = k
  tab : ∀ i k, i < n → k < n → (t i k = true ↔ W i k)
  base : ∀ i k, i < n → k < n → d i k = true → W i k
  trans : ∀ i j k, j < n → W i j → W j k → W i k
  first : ∀ i k, i < n → k < n → W i k → d i k = true ∨ ∃ j, j < n ∧ d i j = true ∧ W j k

structure Inv (nm : Nat → Tx) (W : Nat → Nat → Prop) (n : Nat) (done : List Bool) (left : List Tx) : Prop where
  dl : done.length = n
  perm : left.Perm (((List.range n).filter (fun i => !done.getD i false)).map nm)
  sort : sorted left
  closed : ∀ i k, i < n → k < n → done.getD i false = true → W i k → done.getD k false = true

section
variable {nm : Nat → Tx} {r : Tx → Tx → Bool} {d t : Nat → Nat → Bool} {W : Nat → Nat → Prop} {n : Nat}

theorem Inv.mem {done : List Bool} {left : List Tx} (h : Inv nm W n done left) (x : Tx) : x ∈ left ↔ ∃ i, i < n ∧ done.getD i false = false ∧ nm i = x := by
  rw [h.perm.mem_iff, List.mem_map]
  constructor
  · rintro ⟨i, hi, e⟩
    have hi' := List.mem_filter.1 hi
    exact ⟨i, List.mem_range.1 hi'.1, by simpa using hi'.2, e⟩
  · rintro ⟨i, hi, hd, e⟩
    exact ⟨i, List.mem_filter.2 ⟨List.mem_range.2 hi, by simp only [hd, Bool.not_false]⟩, e⟩

theorem ready_iff {done : List Bool} {i : Nat} : ready t n done i = true ↔ done.getD i false = false ∧ ∀ k, k < n → t i k = true → done.getD k false = true := by
  unfold ready
  simp only [Bool.and_eq_true, Bool.not_eq_true', List.all_eq_true, List.mem_range, Bool.or_eq_true]
  constructor
  · rintro ⟨a, b⟩
    exact ⟨a, fun k hk ht => by
      rcases b k hk with q | q
      · rw [ht] at q; exact absurd q (by simp)
      · exact q⟩
  · rintro ⟨a, b⟩
    refine ⟨a, fun k hk => ?_⟩
    cases q : t i k
    · exact Or.inl rfl
    · exact Or.inr (b k hk q)

/-- free among the left and ready by the table: one and the same -/
theorem free_ready (N : Net nm r d t W n) {done : List Bool} {left : List Tx} (h : Inv nm W n done left) {i : Nat} (hi : i < n) (hd : done.getD i false = false) :
    free r left (nm i) = true ↔ ready t n done i = true := by
  rw [ready_iff]
  unfold free
  simp only [List.all_eq_true, Bool.not_eq_true']
  constructor
  · intro q
    refine ⟨hd, fun k hk tk => ?_⟩
    have dn : ∀ j, j < n → d i j = true → done.getD j false = true := fun j hj dj => by
      cases c : done.getD j false
      · have := q (nm j) ((h.mem _).2 ⟨j, hj, c, rfl⟩)
        rw [N.dir i j hi hj, dj] at this; exact absurd this (by simp)
      · rfl
    rcases N.first i k hi hk ((N.tab i k hi hk).1 tk) with w | ⟨j, hj, dj, w⟩
    · exact dn k hk w
    · exact h.closed j k hj hk (dn j hj dj) w
  · rintro ⟨_, q⟩ x hx
    obtain ⟨k, hk, dk, e⟩ := (h.mem x).1 hx
    rw [← e, N.dir i k hi hk]
    cases c : d i k
    · rfl
    · have := q k hk ((N.tab i k hi hk).2 (N.base i k hi hk c))
      rw [dk] at this; exact absurd this (by simp)

theorem best_tells (done : List Bool) : ∀ (c : Nat), (bestTo nm t n done c = none → ∀ i, i < c → ready t n done i = false) ∧
    (∀ j, bestTo nm t n done c = some j → j < c ∧ ready t n done j = true ∧ ∀ i, i < c → ready t n done i = true → nm j ≤ nm i)
  | 0 => ⟨fun _ _ h => absurd h (Nat.not_lt_zero _), fun _ h => by simp [bestTo] at h⟩
  | c + 1 => by
    have ih := best_tells done c
    have e : bestTo nm t n done (c + 1) = if ready t n done c = true ∧ (∀ j, bestTo nm t n done c = some j → nm c < nm j) then some c else bestTo nm t n done c := by
      unfold bestTo; rw [List.range_succ, List.foldl_append, List.foldl_cons, List.foldl_nil]
    rw [e]
    split
    · rename_i q
      refine ⟨(fun h => absurd h (by simp)), fun j hj => ?_⟩
      cases hj
      refine ⟨by omega, q.1, fun i hi ri => ?_⟩
      by_cases ec : i = c
      · rw [ec]; exact List.le_refl _
      · have hi' : i < c := by omega
        cases b : bestTo nm t n done c with
        | none => exact absurd (ih.1 b i hi') (by simp [ri])
        | some j => exact le_trans' (le_of_lt' (q.2 j b)) ((ih.2 j b).2.2 i hi' ri)
    · rename_i q
      refine ⟨fun h i hi => ?_, fun j hj => ?_⟩
      · by_cases ec : i = c
        · subst ec
          cases rc : ready t n done i
          · rfl
          · exact absurd ⟨rc, fun j hj => by rw [h] at hj; cases hj⟩ q
        · exact ih.1 h i (by omega)
      · obtain ⟨h1, h2, h3⟩ := ih.2 j hj
        refine ⟨by omega, h2, fun i hi ri => ?_⟩
        by_cases ec : i = c
        · subst ec
          by_cases lt : nm i < nm j
          · exact absurd ⟨ri, fun j' hj' => by rw [hj] at hj'; cases hj'; exact lt⟩ q
          · exact le_of_not lt
        · exact h3 i (by omega) ri

/-- the first free one is the document's best -/
theorem find_best (N : Net nm r d t W n) {done : List Bool} {left : List Tx} (h : Inv nm W n done left) :
    left.find? (free r left) = (bestTo nm t n done n).map nm := by
  have b := best_tells (nm := nm) (t := t) (n := n) done n
  cases e : bestTo nm t n done n with
  | none =>
    rw [Option.map_none, List.find?_eq_none]
    intro x hx fx
    obtain ⟨i, hi, hd, ei⟩ := (h.mem x).1 hx
    rw [← ei] at fx
    have := (free_ready N h hi hd).1 fx
    rw [b.1 e i hi] at this; exact absurd this (by simp)
  | some j =>
    obtain ⟨hj, rj, lj⟩ := b.2 j e
    have dj := (ready_iff.1 rj).1
    have mj : nm j ∈ left := (h.mem _).2 ⟨j, hj, dj, rfl⟩
    have fj := (free_ready N h hj dj).2 rj
    rw [Option.map_some]
    cases fe : left.find? (free r left) with
    | none => exact absurd fj (List.find?_eq_none.1 fe _ mj)
    | some a =>
      obtain ⟨fa, as, bs, el, no⟩ := List.find?_eq_some_iff_append.1 fe
      have ma : a ∈ left := by rw [el]; simp
      obtain ⟨i, hi, di, ei⟩ := (h.mem a).1 ma
      have ri : ready t n done i = true := (free_ready N h hi di).1 (by rw [ei]; exact fa)
      have le1 : nm j ≤ a := by rw [← ei]; exact lj i hi ri
      have so := h.sort
      rw [sorted, el] at so
      have so' := List.pairwise_cons.1 (List.pairwise_append.1 so).2.1
      rw [el] at mj
      rcases List.mem_append.1 mj with q | q
      · exact absurd fj (by simpa using no _ q)
      · rcases List.mem_cons.1 q with q | q
        · rw [q]
        · rw [le_anti le1 (so'.1 _ q)]

theorem set_at {done : List Bool} {j i : Nat} (hj : j < done.length) : (done.set j true).getD i false = if i = j then true else done.getD i false := by
  by_cases e : i = j
  · subst e; rw [if_pos rfl, List.getD_eq_getElem?_getD, List.getElem?_set_self hj, Option.getD_some]
  · rw [if_neg e, List.getD_eq_getElem?_getD, List.getElem?_set_ne (Ne.symm e), ← List.getD_eq_getElem?_getD]

theorem Inv.step (N : Net nm r d t W n) {done : List Bool} {left : List Tx} (h : Inv nm W n done left) {j : Nat} (hj : j < n) (rj : ready t n done j = true) :
    Inv nm W n (done.set j true) (left.erase (nm j)) ∧ (left.erase (nm j)).length + 1 = left.length := by
  obtain ⟨dj, wj⟩ := ready_iff.1 rj
  have hl : j < done.length := by rw [h.dl]; exact hj
  have p := perm_take (p := fun i => !done.getD i false) (q := fun i => !(done.set j true).getD i false) (j := j) (by simp only [dj, Bool.not_false])
    (by simp only [set_at hl, if_true, Bool.not_true]) (fun i hi => by simp only [set_at hl, if_neg hi]) (l := List.range n) List.nodup_range (List.mem_range.2 hj)
  have p2 : left.Perm (nm j :: ((List.range n).filter (fun i => !(done.set j true).getD i false)).map nm) := by
    have := h.perm.trans (p.map nm); rwa [List.map_cons] at this
  have p3 := p2.erase (nm j)
  rw [List.erase_cons_head] at p3
  refine ⟨⟨by simp [h.dl], p3, h.sort.sublist List.erase_sublist, fun i k hi hk di w => ?_⟩, ?_⟩
  · rw [set_at hl] at di ⊢
    split
    · rfl
    · split at di
      · rename_i e; subst e
        exact wj k hk ((N.tab i k hi hk).2 w)
      · exact h.closed i k hi hk di w
  · have := p2.length_eq
    rw [p3.length_eq, this, List.length_cons]

/-- where none needs itself, one that is left is ready -/
theorem some_ready (N : Net nm r d t W n) (no : ∀ i, i < n → ¬ W i i) {done : List Bool} :
    ∀ (c i : Nat), i < n → done.getD i false = false → ((List.range n).filter (fun k => t i k)).length ≤ c → ∃ j, j < n ∧ ready t n done j = true
  | c, i, hi, hd, hc => by
    by_cases q : ready t n done i = true
    · exact ⟨i, hi, q⟩
    · have : ∃ k, k < n ∧ t i k = true ∧ done.getD k false = false := by
        apply Classical.byContradiction
        intro hno
        apply q
        rw [ready_iff]
        refine ⟨hd, fun k hk tk => ?_⟩
        cases e : done.getD k false
        · exact absurd ⟨k, hk, tk, e⟩ hno
        · rfl
      obtain ⟨k, hk, tk, dk⟩ := this
      have wk := (N.tab i k hi hk).1 tk
      have lt : ((List.range n).filter (fun x => t k x)).length < ((List.range n).filter (fun x => t i x)).length := by
        have sub : ∀ x, x ∈ List.range n → t k x = true → t i x = true := fun x hx tx =>
          have hx' := List.mem_range.1 hx
          (N.tab i x hi hx').2 (N.trans i k x hk wk ((N.tab k x hk hx').1 tx))
        have tkk : t k k = false := by
          cases e : t k k
          · rfl
          · exact absurd ((N.tab k k hk hk).1 e) (no k hk)
        have gen : ∀ (l : List Nat), (∀ x, x ∈ l → t k x = true → t i x = true) → ((l.filter (fun x => t k x)).length ≤ (l.filter (fun x => t i x)).length) ∧ (k ∈ l → (l.filter (fun x => t k x)).length < (l.filter (fun x => t i x)).length) := by
          intro l
          induction l with
          | nil => intro _; exact ⟨Nat.le_refl _, fun h => absurd h List.not_mem_nil⟩
          | cons x l ih =>
            intro hs
            have ih' := ih (fun y hy => hs y (List.mem_cons_of_mem _ hy))
            cases a : t k x <;> cases b : t i x <;> simp only [List.filter_cons, a, b, if_true, Bool.false_eq_true, if_false, List.length_cons]
            · refine ⟨ih'.1, fun hm => ?_⟩
              rcases List.mem_cons.1 hm with q | q
              · rw [← q, tk] at b; cases b
              · exact ih'.2 q
            · have h1 := ih'.1
              exact ⟨by omega, fun _ => by omega⟩
            · have := hs x List.mem_cons_self a
              rw [b] at this; cases this
            · refine ⟨by have := ih'.1; omega, fun hm => ?_⟩
              rcases List.mem_cons.1 hm with q | q
              · rw [← q, tkk] at a; cases a
              · have := ih'.2 q; omega
        exact (gen _ sub).2 (List.mem_range.2 hk)
      cases c with
      | zero => omega
      | succ c => exact some_ready N no c k hk dk (by omega)

/-- where none needs itself: the two orders are one -/
theorem order_doc (N : Net nm r d t W n) (no : ∀ i, i < n → ¬ W i i) : ∀ (f : Nat) (done : List Bool) (left out : List Tx), Inv nm W n done left → left.length = f →
    order r f left out = some (docOrder nm t n f done out)
  | 0, _, _, _, _, _ => rfl
  | f + 1, done, left, out, h, hl => by
    have b := best_tells (nm := nm) (t := t) (n := n) done n
    have fb := find_best N h
    cases e : bestTo nm t n done n with
    | none =>
      obtain ⟨x, hx⟩ : ∃ x, x ∈ left := by
        cases left with
        | nil => simp at hl
        | cons x l => exact ⟨x, List.mem_cons_self⟩
      obtain ⟨i, hi, hd, _⟩ := (h.mem x).1 hx
      obtain ⟨j, hj, rj⟩ := some_ready N no _ i hi hd (Nat.le_refl _)
      rw [b.1 e j hj] at rj; cases rj
    | some j =>
      obtain ⟨hj, rj, _⟩ := b.2 j e
      rw [e, Option.map_some] at fb
      obtain ⟨h', l'⟩ := h.step N hj rj
      rw [order_some fb, docOrder, e]
      exact order_doc N no f _ _ _ h' (by omega)

/-- where one needs itself there is no order -/
theorem order_round (N : Net nm r d t W n) {i : Nat} (hi : i < n) (w : W i i) : ∀ (f : Nat) (done : List Bool) (left out : List Tx), Inv nm W n done left → left.length = f →
    done.getD i false = false → order r f left out = none
  | 0, done, left, _, h, hl, hd => by
    have m : nm i ∈ left := (h.mem _).2 ⟨i, hi, hd, rfl⟩
    have : left = [] := List.eq_nil_of_length_eq_zero hl
    rw [this] at m; exact absurd m List.not_mem_nil
  | f + 1, done, left, out, h, hl, hd => by
    have b := best_tells (nm := nm) (t := t) (n := n) done n
    have fb := find_best N h
    cases e : bestTo nm t n done n with
    | none => rw [e] at fb; exact order_none fb
    | some j =>
      obtain ⟨hj, rj, _⟩ := b.2 j e
      rw [e, Option.map_some] at fb
      obtain ⟨h', l'⟩ := h.step N hj rj
      rw [order_some fb]
      refine order_round N hi w f _ _ _ h' (by omega) ?_
      rw [set_at (by rw [h.dl]; exact hj)]
      split
      · rename_i q; subst q
        have := (ready_iff.1 rj).2 i hi ((N.tab i i hi hi).2 w)
        rw [hd] at this; cases this
      · exact hd

theorem Inv.begun : Inv nm W n (List.replicate n false) (msort ((List.range n).map nm)) := by
  have e : ∀ i, (List.replicate n false).getD i false = false := fun i => by
    rw [List.getD_eq_getElem?_getD, List.getElem?_replicate]; split <;> rfl
  refine ⟨by simp, ?_, msort_sorted _, fun i k hi hk q _ => by rw [e i] at q; cases q⟩
  have : (List.range n).filter (fun i => !(List.replicate n false).getD i false) = List.range n := List.filter_eq_self.2 (fun i _ => by simp only [e i, Bool.not_false])
  rw [this]; exact msort_perm _
end

end Gs
end Go.Proofs.Ytjnfemcfohflnaa
