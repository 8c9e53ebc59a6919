import Derived.Test.YtgkpbndeljnjcaaGraphLaw
/- Plain Lean: the walk in depth, told one by one (chapter E). No program in sight. -/
open Go
namespace Go.Proofs.Ytgkpbndeljnjcaa
namespace Gr
section
variable {N : Type}

/-- what it keeps of those that are met: nothing is lost, each is there once, all are of the row -/
structure Keeps (all m M : List N) : Prop where
  sub : ∀ x, x ∈ m → x ∈ M
  nd : m.Nodup → M.Nodup
  inn : (∀ x, x ∈ m → x ∈ all) → ∀ x, x ∈ M → x ∈ all
theorem Keeps.refl (all m : List N) : Keeps all m m := ⟨fun _ h => h, fun h => h, fun h => h⟩
theorem Keeps.trans {all a b c : List N} (h : Keeps all a b) (k : Keeps all b c) : Keeps all a c := ⟨fun x hx => k.sub x (h.sub x hx), fun n => k.nd (h.nd n), fun n => k.inn (h.inn n)⟩
theorem Keeps.cons {all m : List N} {b : N} (hb : b ∈ all) (hn : b ∉ m) : Keeps all m (b :: m) :=
  ⟨fun x hx => List.mem_cons_of_mem _ hx, fun n => List.nodup_cons.2 ⟨hn, n⟩, fun n x hx => by
    rcases List.mem_cons.1 hx with rfl | q
    · exact hb
    · exact n x q⟩

theorem fold_keeps {all : List N} {F : List N → N → List N} (hF : ∀ m b, b ∈ all → Keeps all m (F m b)) : ∀ (l m : List N), (∀ x, x ∈ l → x ∈ all) → Keeps all m (l.foldl F m)
  | [], m, _ => Keeps.refl _ _
  | b :: l, m, h => by
    rw [List.foldl_cons]
    exact (hF m b (h b List.mem_cons_self)).trans (fold_keeps hF l _ (fun x hx => h x (List.mem_cons_of_mem _ hx)))
end
section
variable {N : Type} [DecidableEq N]
/-- one turn of the walk's loop -/
def stp (all : List N) (r : N → N → Bool) (f : Nat) (a : N) (m : List N) (b : N) : List N := if b ∉ m ∧ r a b = true then visit all r f (b :: m) b else m
theorem visit_stp (all : List N) (r : N → N → Bool) (f : Nat) (m : List N) (a : N) : visit all r (f + 1) m a = all.foldl (stp all r f a) m := rfl

theorem visit_keeps (all : List N) (r : N → N → Bool) : ∀ (f : Nat) (m : List N) (a : N), Keeps all m (visit all r f m a)
  | 0, m, _ => Keeps.refl _ _
  | f + 1, m, a => by
    rw [visit_stp]
    refine fold_keeps (fun m b hb => ?_) all m (fun _ h => h)
    unfold stp
    split
    · rename_i h
      exact (Keeps.cons hb h.1).trans (visit_keeps all r f _ _)
    · exact Keeps.refl _ _
theorem stp_keeps (all : List N) (r : N → N → Bool) (f : Nat) (a : N) {b : N} (hb : b ∈ all) (m : List N) : Keeps all m (stp all r f a m b) := by
  unfold stp
  split
  · rename_i h
    exact (Keeps.cons hb h.1).trans (visit_keeps all r f _ _)
  · exact Keeps.refl _ _
/-- so far in the loop -/
def sofar (all : List N) (r : N → N → Bool) (f : Nat) (a : N) (m : List N) (j : Nat) : List N := (all.take j).foldl (stp all r f a) m
theorem sofar_zero (all : List N) (r : N → N → Bool) (f : Nat) (a : N) (m : List N) : sofar all r f a m 0 = m := rfl
theorem sofar_succ {all : List N} {r : N → N → Bool} {f : Nat} {a : N} {m : List N} {j : Nat} (h : j < all.length) : sofar all r f a m (j + 1) = stp all r f a (sofar all r f a m j) all[j] := by
  unfold sofar; rw [List.take_succ_eq_append_getElem h, List.foldl_append, List.foldl_cons, List.foldl_nil]
theorem sofar_end {all : List N} {r : N → N → Bool} {f : Nat} {a : N} {m : List N} {j : Nat} (h : ¬ j < all.length) : sofar all r f a m j = visit all r (f + 1) m a := by
  unfold sofar; rw [List.take_of_length_le (by omega)]; rfl
theorem sofar_keeps (all : List N) (r : N → N → Bool) (f : Nat) (a : N) (m : List N) (j : Nat) : Keeps all m (sofar all r f a m j) :=
  fold_keeps (fun m _ hb => stp_keeps all r f a hb m) _ _ (fun _ hx => List.mem_of_mem_take hx)

theorem nodup_le : ∀ {m all : List N}, m.Nodup → (∀ x, x ∈ m → x ∈ all) → m.length ≤ all.length
  | [], _, _, _ => Nat.zero_le _
  | b :: m, all, hn, h => by
    have hn' := List.nodup_cons.1 hn
    have hb := h b List.mem_cons_self
    have ih := nodup_le (m := m) (all := all.erase b) hn'.2 (fun x hx => by
      have ne : x ≠ b := fun e => hn'.1 (e ▸ hx)
      exact (List.mem_erase_of_ne ne).2 (h x (List.mem_cons_of_mem _ hx)))
    rw [List.length_erase_of_mem hb] at ih
    have := List.length_pos_of_mem hb
    rw [List.length_cons]; omega
end
end Gr
end Go.Proofs.Ytgkpbndeljnjcaa
