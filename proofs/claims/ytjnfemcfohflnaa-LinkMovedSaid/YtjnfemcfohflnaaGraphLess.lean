import Derived.Test.YtjnfemcfohflnaaGraphLaw
import Derived.Test.YtjnfemcfohflnaaGraphOrd
/- Plain Lean: what follows of needs and order (chapter E), for the laws without the document's answer. No program in sight. -/
open Go
namespace Go.Proofs.Ytjnfemcfohflnaa
namespace Gs

/-! ### what follows of it: who is used, without one that nobody needs, each behind all that it needs -/
section Needs
variable {N : Type}

theorem turned {all : List N} {r : N → N → Bool} {a b : N} (ha : a ∈ all) (h : Relation.TransGen (Gr.Step all r) a b) : Relation.TransGen (Gr.Step all (fun x y => r y x)) b a := by
  have key : b ∈ all ∧ Relation.TransGen (Gr.Step all (fun x y => r y x)) b a := by
    induction h with
    | single s => exact ⟨s.1, .single ⟨ha, s.2⟩⟩
    | tail _ s ih => exact ⟨s.1, Relation.TransGen.trans (.single ⟨ih.1, s.2⟩) ih.2⟩
  exact key.2

theorem turned_iff {all : List N} {r : N → N → Bool} {a b : N} (ha : a ∈ all) (hb : b ∈ all) : Relation.TransGen (Gr.Step all r) a b ↔ Relation.TransGen (Gr.Step all (fun x y => r y x)) b a :=
  ⟨turned ha, turned (r := fun x y => r y x) hb⟩

/-- without one that nobody needs: others need what they needed -/
theorem less_needs [DecidableEq N] {all : List N} {r r' : N → N → Bool} {x : N} (hn : all.Nodup) (no : ∀ a, a ∈ all → r a x = false) (same : ∀ a b, a ∈ all.erase x → b ∈ all.erase x → r' a b = r a b)
    {a : N} (ha : a ∈ all.erase x) (b : N) : Relation.TransGen (Gr.Step all r) a b ↔ Relation.TransGen (Gr.Step (all.erase x) r') a b := by
  have up : ∀ y, y ∈ all.erase x → y ∈ all := fun y hy => List.mem_of_mem_erase hy
  have dn : ∀ z y, z ∈ all.erase x → Gr.Step all r z y → y ∈ all.erase x := fun z y hz s => by
    rw [hn.mem_erase_iff]
    exact ⟨fun e => absurd (no z (up z hz)) (by rw [← e, s.2]; simp), s.1⟩
  constructor
  · intro h
    have key : b ∈ all.erase x ∧ Relation.TransGen (Gr.Step (all.erase x) r') a b := by
      induction h with
      | single s => have m := dn _ _ ha s; exact ⟨m, .single ⟨m, by rw [same _ _ ha m]; exact s.2⟩⟩
      | tail _ s ih => have m := dn _ _ ih.1 s; exact ⟨m, .tail ih.2 ⟨m, by rw [same _ _ ih.1 m]; exact s.2⟩⟩
    exact key.2
  · intro h
    have key : b ∈ all.erase x ∧ Relation.TransGen (Gr.Step all r) a b := by
      induction h with
      | single s => exact ⟨s.1, .single ⟨up _ s.1, by rw [← same _ _ ha s.1]; exact s.2⟩⟩
      | tail _ s ih => exact ⟨s.1, .tail ih.2 ⟨up _ s.1, by rw [← same _ _ ih.1 s.1]; exact s.2⟩⟩
    exact key.2
end Needs

/-- each is there once, behind all that it needs -/
theorem order_tells {r : Tx → Tx → Bool} : ∀ (f : Nat) (left out c : List Tx), left.length = f → left.Nodup → order r f left out = some c →
    ∃ p, c = out ++ p ∧ p.Perm left ∧ ∀ i a, p[i]? = some a → ∀ b, b ∈ left → r a b = true → b ∈ p.take i
  | 0, left, out, c, hl, _, h => by
    have : left = [] := List.eq_nil_of_length_eq_zero hl
    subst this
    refine ⟨[], by rw [order] at h; cases h; simp, List.Perm.refl _, fun i a q => by simp at q⟩
  | f + 1, left, out, c, hl, hn, h => by
    cases e : left.find? (free r left) with
    | none => rw [order_none e] at h; cases h
    | some a =>
      rw [order_some e] at h
      have ma : a ∈ left := List.mem_of_find?_eq_some e
      have fa : free r left a = true := List.find?_some e
      obtain ⟨p, e1, e2, e3⟩ := order_tells f (left.erase a) (out ++ [a]) c (by rw [List.length_erase_of_mem ma]; omega) (hn.erase a) h
      refine ⟨a :: p, by rw [e1]; simp, (e2.cons a).trans (List.perm_cons_erase ma).symm, fun i x hx b hb rb => ?_⟩
      cases i with
      | zero =>
        have : a = x := by simpa using hx
        subst this
        unfold free at fa
        have := List.all_eq_true.1 fa b hb
        rw [rb] at this; cases this
      | succ i =>
        rw [List.take_succ_cons]
        by_cases q : b = a
        · rw [q]; exact List.mem_cons_self
        · exact List.mem_cons_of_mem _ (e3 i x (by simpa using hx) b ((List.mem_erase_of_ne q).2 hb) rb)

/-- through others too -/
theorem order_behind {r : Tx → Tx → Bool} {left p : List Tx} (h : ∀ i a, p[i]? = some a → ∀ b, b ∈ left → r a b = true → b ∈ p.take i)
    {i : Nat} {a b : Tx} (ha : p[i]? = some a) (w : Relation.TransGen (Gr.Step left r) a b) : b ∈ p.take i := by
  induction w with
  | single s => exact h i a ha _ s.1 s.2
  | @tail y z _ s ih =>
    obtain ⟨j, hj, ej⟩ := List.getElem_of_mem ih
    have hj' : j < i := by rw [List.length_take] at hj; omega
    have e : p[j]? = some y := by
      rw [List.getElem_take] at ej
      rw [List.getElem?_eq_getElem (by rw [List.length_take] at hj; omega), ej]
    have m := h j _ e _ s.1 s.2
    have sub : p.take j = (p.take i).take j := by rw [List.take_take, Nat.min_eq_left (by omega)]
    rw [sub] at m
    exact List.mem_of_mem_take m

theorem order_congr {r r' : Tx → Tx → Bool} : ∀ (f : Nat) (left out : List Tx), (∀ a b, a ∈ left → b ∈ left → r a b = r' a b) → order r f left out = order r' f left out
  | 0, _, _, _ => rfl
  | f + 1, left, out, h => by
    have e0 : ∀ a, a ∈ left → free r left a = free r' left a := fun a ha => by
      unfold free
      rw [Bool.eq_iff_iff]
      simp only [List.all_eq_true]
      exact ⟨fun q b hb => by rw [← h a b ha hb]; exact q b hb, fun q b hb => by rw [h a b ha hb]; exact q b hb⟩
    have ef : ∀ (l : List Tx), (∀ x, x ∈ l → x ∈ left) → l.find? (free r left) = l.find? (free r' left) := by
      intro l
      induction l with
      | nil => intro _; rfl
      | cons x l ih => intro hs; rw [List.find?_cons, List.find?_cons, e0 x (hs x List.mem_cons_self), ih (fun y hy => hs y (List.mem_cons_of_mem _ hy))]
    have fe := ef left (fun _ hx => hx)
    cases e : left.find? (free r left) with
    | none => rw [order_none e, order_none (by rw [← fe]; exact e)]
    | some a =>
      rw [order_some e, order_some (by rw [← fe]; exact e)]
      exact order_congr f _ _ (fun x y hx hy => h x y (List.mem_of_mem_erase hx) (List.mem_of_mem_erase hy))

def but (x : Tx) (l : List Tx) : List Tx := l.filter (fun a => decide (a ≠ x))

theorem order_but {r : Tx → Tx → Bool} {x : Tx} : ∀ (f : Nat) (left out : List Tx), x ∉ left → (order r f left out).map (but x) = order r f left (but x out)
  | 0, _, _, _ => rfl
  | f + 1, left, out, h => by
    cases e : left.find? (free r left) with
    | none => rw [order_none e, order_none e]; rfl
    | some a =>
      have ma : a ∈ left := List.mem_of_find?_eq_some e
      have ne : a ≠ x := fun q => h (q ▸ ma)
      rw [order_some e, order_some e, order_but f _ _ (fun q => h (List.mem_of_mem_erase q))]
      have : but x (out ++ [a]) = but x out ++ [a] := by unfold but; rw [List.filter_append]; simp [ne]
      rw [this]

/-- without one that nobody needs: the same order, but for it -/
theorem order_less {r : Tx → Tx → Bool} {x : Tx} : ∀ (f : Nat) (left out : List Tx), left.length = f + 1 → left.Nodup → x ∈ left → (∀ a, a ∈ left → r a x = false) →
    (order r (f + 1) left out).map (but x) = order r f (left.erase x) (but x out)
  | f, left, out, hl, hn, hx, no => by
    have fr : ∀ a, a ∈ left → free r (left.erase x) a = free r left a := fun a ha => by
      unfold free
      rw [Bool.eq_iff_iff]
      simp only [List.all_eq_true, Bool.not_eq_true']
      exact ⟨fun q b hb => by
        by_cases e : b = x
        · rw [e]; exact no a ha
        · exact q b ((List.mem_erase_of_ne e).2 hb), fun q b hb => q b (List.mem_of_mem_erase hb)⟩
    cases e : left.find? (free r left) with
    | none =>
      have ne := List.find?_eq_none.1 e
      rw [order_none e, Option.map_none]
      cases f with
      | zero =>
        exfalso
        have : left = [x] := by
          match left, hl, hx with
          | [y], _, hx => rw [List.mem_singleton.1 hx]
        subst this
        exact ne x List.mem_cons_self (by unfold free; simp [no x List.mem_cons_self])
      | succ f =>
        rw [order_none]
        rw [List.find?_eq_none]
        intro y hy fy
        have my := List.mem_of_mem_erase hy
        rw [fr y my] at fy
        exact ne y my fy
    | some a =>
      rw [order_some e]
      by_cases q : a = x
      · subst q
        have nx : a ∉ left.erase a := fun m => (hn.mem_erase_iff.1 m).1 rfl
        rw [order_but f _ _ nx]
        have : but a (out ++ [a]) = but a out := by unfold but; rw [List.filter_append]; simp
        rw [this]
      · have ma : a ∈ left := List.mem_of_find?_eq_some e
        have ex : (left.erase x).find? (free r (left.erase x)) = some a := by
          obtain ⟨fa, as, bs, el, nf⟩ := List.find?_eq_some_iff_append.1 e
          have cg : ∀ (l : List Tx), (∀ y, y ∈ l → y ∈ left) → l.find? (free r (left.erase x)) = l.find? (free r left) := by
            intro l
            induction l with
            | nil => intro _; rfl
            | cons y l ih => intro hs; rw [List.find?_cons, List.find?_cons, fr y (hs y List.mem_cons_self), ih (fun z hz => hs z (List.mem_cons_of_mem _ hz))]
          rw [cg _ (fun y hy => List.mem_of_mem_erase hy)]
          rw [List.find?_eq_some_iff_append]
          refine ⟨fa, ?_⟩
          by_cases mx : x ∈ as
          · refine ⟨as.erase x, bs, ?_, fun y hy => nf y (List.mem_of_mem_erase hy)⟩
            have : (as ++ a :: bs).erase x = as.erase x ++ a :: bs := List.erase_append_left _ mx
            rw [← this, ← el]
          · refine ⟨as, bs.erase x, ?_, nf⟩
            have : (as ++ a :: bs).erase x = as ++ (a :: bs).erase x := List.erase_append_right _ mx
            rw [List.erase_cons_tail (by simpa using q)] at this
            rw [← this, ← el]
        have hl2 : (left.erase a).length = f := by rw [List.length_erase_of_mem ma]; omega
        have mx2 : x ∈ left.erase a := (List.mem_erase_of_ne (Ne.symm q)).2 hx
        have bo : but x (out ++ [a]) = but x out ++ [a] := by unfold but; rw [List.filter_append]; simp [q]
        cases f with
        | zero => exact absurd mx2 (by rw [List.eq_nil_of_length_eq_zero hl2]; exact List.not_mem_nil)
        | succ f =>
          rw [order_some ex, order_less f (left.erase a) (out ++ [a]) hl2 (hn.erase a) mx2 (fun y hy => no y (List.mem_of_mem_erase hy)), bo, List.erase_comm]

end Gs
end Go.Proofs.Ytjnfemcfohflnaa
