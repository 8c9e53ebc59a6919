import Derived.Lib.Hide
import Derived.Below
open Go
namespace Go.Proofs.YtjiedaialianmaaGreat
theorem Hp {p : Prop} (h : p) : Go.RowKit.Hid p := h
theorem GZ0.{u} {α : Type u} {a : α} {l : List α} : (a :: l)[0]? = some a := List.getElem?_cons_zero
theorem GZ1.{u} {α : Type u} {a : α} {i : Nat} {l : List α} : (a :: l)[i + 1]? = l[i]? := List.getElem?_cons_succ
theorem GZ2.{u} {α : Type u} {xs : List α} {i : Nat} : xs.toArray[i]? = xs[i]? := List.getElem?_toArray
theorem GZ3 (n : Nat) : n ≤ n := Nat.le_refl n
theorem GZ4 (B : Nat) (w : World) : RowKit.Below B w w := RowKit.Below.refl B w
theorem GZ5.{u} {α : Type u} {a b : α} {l : List α} : (a :: l).set 0 b = b :: l := List.set_cons_zero
theorem GZ6.{u} {α : Type u} {a b : α} {l : List α} {n : Nat} : (a :: l).set (n + 1) b = a :: l.set n b := List.set_cons_succ
theorem GZ7.{u} {α : Type u} {xs : List α} {i : Nat} {a : α} : xs.toArray.setIfInBounds i a = (xs.set i a).toArray := List.setIfInBounds_toArray ..
theorem GZ8.{u} {α : Type u} {as bs : List α} : (as ++ bs).length = as.length + bs.length := List.length_append
theorem GZ9.{u} {α : Type u} {l : List α} {n : Nat} (h : n < l.length) : l[n] ∈ l := List.getElem_mem h
theorem GY0 {n m k : Nat} (h : n < m) (h' : m ≤ k) : n < k := Nat.lt_of_lt_of_le h h'
theorem GY1 {n m k : Nat} (h : n ≤ m) (h' : m ≤ k) : n ≤ k := Nat.le_trans h h'
theorem GY2 {n m : Nat} (h : n < m) : n ≤ m := Nat.le_of_lt h
theorem GY3.{u} {α : Type u} {a b : α} (h : some a = some b) : a = b := Option.some.inj h
theorem GY4.{u} {α : Type u} {i : Nat} {l : List α} (h : i < l.length) : l.drop i = l[i] :: l.drop (i + 1) := List.drop_eq_getElem_cons h
theorem GY5.{u} {α : Type u} {l : List α} {i : Nat} (h : i < l.length) : l[i]? = some l[i] := List.getElem?_eq_getElem h
theorem GY6.{u} {α : Type u} {i : Nat} {l : List α} : (l.take i).length = min i l.length := List.length_take
theorem GY7 {p : Prop} [inst : Decidable p] (h : ¬ p) : decide p = false := decide_eq_false h
theorem GY8.{u} {α : Type u} {a : α} {as : List α} : (a :: as).length = as.length + 1 := List.length_cons
theorem GY9.{u} {α : Type u} {l : List α} (h : l.length = 0) : l = [] := List.eq_nil_of_length_eq_zero h
theorem ZL.{u} {α : Type u} {a : Array α} {i : Nat} {b : α} (h : a[i]? = some b) : i < a.size := (Array.getElem?_eq_some_iff.1 h).1
theorem ZB {w : World} {o : Obj} : RowKit.Below w.heap.size w (w.alloc o) := (RowKit.Below.refl _ _).alloc (Nat.le_refl _) _
theorem Nm.{u} {α : Sort u} (x : α) : ∃ y, y = x := ⟨x, rfl⟩
end Go.Proofs.YtjiedaialianmaaGreat
