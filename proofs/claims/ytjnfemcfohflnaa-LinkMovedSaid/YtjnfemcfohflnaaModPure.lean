import Derived.Below
import Derived.Test.YtjnfemcfohflnaaPure
/- Plain Lean: modules, what is wrong with them (chapter B), regions (chapter F), imports (chapter D). No program in sight. -/
open Go
namespace Go.Proofs.Ytjnfemcfohflnaa

structure Exp where
  name : ByteArray
  at_ : Int
structure Imp where
  mod : ByteArray
  name : ByteArray
  major : Int
  minor : Int
structure Pat where
  kind : Int
  at_ : Int
  sym : Int
  add : Int
/-- a module as it lies in memory: what it holds, and where its three rows lie -/
structure Mod where
  name : ByteArray
  major : Int
  minor : Int
  text : ByteArray
  ex : List Exp
  im : List Imp
  pa : List Pat
  eA : Option Addr
  eC : Nat
  iA : Option Addr
  iC : Nat
  pA : Option Addr
  pC : Nat
structure Plc where
  m : Mod
  first : Int
structure Krn where
  major : Int
  minor : Int
  ex : List Exp
  eA : Option Addr
  eC : Nat

/-! ### names -/
def okByte (c : UInt8) : Bool := (decide (97 ≤ c.toNat) && decide (c.toNat ≤ 122)) || (decide (48 ≤ c.toNat) && decide (c.toNat ≤ 57)) || decide (c.toNat = 95)
def okFirst (l : List UInt8) : Bool := match l with
  | [] => false
  | c :: _ => decide (97 ≤ c.toNat) && decide (c.toNat ≤ 122)
def isName (s : ByteArray) : Bool := decide (s.size ≤ 10) && okFirst s.data.toList && s.data.toList.all okByte

theorem isName_size {s : ByteArray} (h : isName s = true) : s.size ≤ 10 := by
  unfold isName at h; simp only [Bool.and_eq_true, decide_eq_true_eq] at h; exact h.1.1

/-! ### what is wrong with a row of exports, imports, patches -/
def expErr (seen : List ByteArray) (most : Int) : List Exp → Int
  | [] => 0
  | x :: l => if isName x.name = false then 1 else if seen.any (fun y => decide (y = x.name)) = true then 6 else if x.at_ < 0 ∨ most ≤ x.at_ then 3 else expErr (x.name :: seen) most l

def impErr (x : Imp) : Int :=
  if isName x.mod = false ∨ isName x.name = false then 1 else if x.major < 0 ∨ 255 < x.major ∨ x.minor < 0 ∨ 255 < x.minor then 3 else 0
def impsErr (seen : List (ByteArray × ByteArray)) : List Imp → Int
  | [] => 0
  | x :: l => if impErr x = 1 then 1 else if seen.any (fun y => decide (y.1 = x.mod) && decide (y.2 = x.name)) = true then 6 else if impErr x ≠ 0 then impErr x else impsErr ((x.mod, x.name) :: seen) l

def patErr (z ni end_ : Int) (p : Pat) : Int :=
  if widthOf p.kind = 0 then 7 else if p.sym < -1 ∨ ni ≤ p.sym ∨ p.add < 0 ∨ 65535 < p.add ∨ p.at_ < 0 ∨ z - widthOf p.kind < p.at_ then 3
  else if p.at_ < end_ then 4 else 0
def patsErr (z ni : Int) (end_ : Int) : List Pat → Int
  | [] => 0
  | p :: l => if patErr z ni end_ p ≠ 0 then patErr z ni end_ p else patsErr z ni (p.at_ + widthOf p.kind) l

/-! ### the same, from a place on -/
def expFrom (l : List Exp) (most : Int) (j : Nat) : Int := expErr ((l.take j).map (·.name)).reverse most (l.drop j)
theorem seen_map {α β : Type} (l : List α) (f : α → β) (j : Nat) (p : β → Bool) (h : j ≤ l.length) : ((l.take j).map f).reverse.any p = true ↔ ∃ k, ∃ hk : k < l.length, k < j ∧ p (f l[k]) = true := by
  rw [List.any_eq_true]
  constructor
  · rintro ⟨y, hy, hp⟩
    rw [List.mem_reverse, List.mem_map] at hy
    obtain ⟨z, hz, rfl⟩ := hy
    rw [List.mem_take_iff_getElem] at hz
    obtain ⟨k, hk1, rfl⟩ := hz
    exact ⟨k, by omega, by omega, hp⟩
  · rintro ⟨k, hk, hkj, hp⟩
    refine ⟨f l[k], ?_, hp⟩
    rw [List.mem_reverse, List.mem_map]
    exact ⟨l[k], by rw [List.mem_take_iff_getElem]; exact ⟨k, by omega, rfl⟩, rfl⟩
theorem take_map_succ {α β : Type} (l : List α) (f : α → β) (j : Nat) (h : j < l.length) : ((l.take (j + 1)).map f).reverse = f l[j] :: ((l.take j).map f).reverse := by
  rw [← List.take_append_getElem h, List.map_append, List.reverse_append]; rfl
section
variable {l : List Exp} {most : Int} {j : Nat}
theorem expFrom_end (h : ¬ j < l.length) : expFrom l most j = 0 := by
  unfold expFrom; rw [List.drop_eq_nil_of_le (by omega)]; rfl
theorem expFrom_form (h : j < l.length) (h1 : isName l[j].name = false) : expFrom l most j = 1 := by
  unfold expFrom; rw [List.drop_eq_getElem_cons h]; unfold expErr; rw [if_pos h1]
theorem expFrom_twice (h : j < l.length) (h1 : isName l[j].name = true) {k : Nat} (hk : k < l.length) (hkj : k < j) (e : l[k].name = l[j].name) : expFrom l most j = 6 := by
  unfold expFrom; rw [List.drop_eq_getElem_cons h]; unfold expErr; rw [if_neg (by simp [h1]), if_pos]
  exact (seen_map l _ j _ (by omega)).2 ⟨k, hk, hkj, by simp [e]⟩
theorem exp_unseen (h : j < l.length) (hn : ∀ k (hk : k < l.length), k < j → l[k].name ≠ l[j].name) : ¬ (((l.take j).map (·.name)).reverse.any (fun y => decide (y = l[j].name)) = true) := by
  rw [seen_map l _ j _ (by omega)]
  rintro ⟨k, hk, hkj, e⟩
  exact hn k hk hkj (by simpa using e)
theorem expFrom_range (h : j < l.length) (h1 : isName l[j].name = true) (hn : ∀ k (hk : k < l.length), k < j → l[k].name ≠ l[j].name) (hr : l[j].at_ < 0 ∨ most ≤ l[j].at_) : expFrom l most j = 3 := by
  unfold expFrom; rw [List.drop_eq_getElem_cons h]; unfold expErr; rw [if_neg (by simp [h1]), if_neg (exp_unseen h hn), if_pos hr]
theorem expFrom_next (h : j < l.length) (h1 : isName l[j].name = true) (hn : ∀ k (hk : k < l.length), k < j → l[k].name ≠ l[j].name) (hr : 0 ≤ l[j].at_ ∧ l[j].at_ < most) : expFrom l most (j + 1) = expFrom l most j := by
  conv => rhs; unfold expFrom; rw [List.drop_eq_getElem_cons h]; unfold expErr; rw [if_neg (by simp [h1]), if_neg (exp_unseen h hn), if_neg (by omega)]
  unfold expFrom; rw [take_map_succ l _ j h]
end

def impsFrom (l : List Imp) (j : Nat) : Int := impsErr ((l.take j).map (fun x => (x.mod, x.name))).reverse (l.drop j)
theorem impErr_cases (x : Imp) : impErr x = 0 ∨ impErr x = 1 ∨ impErr x = 3 := by
  unfold impErr; (repeat' split) <;> simp
section
variable {l : List Imp} {j : Nat}
theorem impsFrom_end (h : ¬ j < l.length) : impsFrom l j = 0 := by
  unfold impsFrom; rw [List.drop_eq_nil_of_le (by omega)]; rfl
theorem impsFrom_form (h : j < l.length) (h1 : impErr l[j] = 1) : impsFrom l j = 1 := by
  unfold impsFrom; rw [List.drop_eq_getElem_cons h]; unfold impsErr; rw [if_pos h1]
theorem impsFrom_twice (h : j < l.length) (h1 : impErr l[j] ≠ 1) {k : Nat} (hk : k < l.length) (hkj : k < j) (e : l[k].mod = l[j].mod ∧ l[k].name = l[j].name) : impsFrom l j = 6 := by
  unfold impsFrom; rw [List.drop_eq_getElem_cons h]; unfold impsErr; rw [if_neg h1, if_pos]
  exact (seen_map l _ j _ (by omega)).2 ⟨k, hk, hkj, by simp [e.1, e.2]⟩
theorem imp_unseen (h : j < l.length) (hn : ∀ k (hk : k < l.length), k < j → ¬ (l[k].mod = l[j].mod ∧ l[k].name = l[j].name)) : ¬ (((l.take j).map (fun x => (x.mod, x.name))).reverse.any (fun y => decide (y.1 = l[j].mod) && decide (y.2 = l[j].name)) = true) := by
  rw [seen_map l _ j _ (by omega)]
  rintro ⟨k, hk, hkj, e⟩
  exact hn k hk hkj (by simpa using e)
theorem impsFrom_range (h : j < l.length) (h1 : impErr l[j] = 3) (hn : ∀ k (hk : k < l.length), k < j → ¬ (l[k].mod = l[j].mod ∧ l[k].name = l[j].name)) : impsFrom l j = 3 := by
  unfold impsFrom; rw [List.drop_eq_getElem_cons h]; unfold impsErr; rw [if_neg (by omega), if_neg (imp_unseen h hn), if_pos (by omega), h1]
theorem impsFrom_next (h : j < l.length) (h1 : impErr l[j] = 0) (hn : ∀ k (hk : k < l.length), k < j → ¬ (l[k].mod = l[j].mod ∧ l[k].name = l[j].name)) : impsFrom l (j + 1) = impsFrom l j := by
  conv => rhs; unfold impsFrom; rw [List.drop_eq_getElem_cons h]; unfold impsErr; rw [if_neg (by omega), if_neg (imp_unseen h hn), if_neg (by omega)]
  unfold impsFrom; rw [take_map_succ l _ j h]
end

def patsFrom (z ni : Int) (l : List Pat) (j : Nat) (end_ : Int) : Int := patsErr z ni end_ (l.drop j)
section
variable {l : List Pat} {z ni e : Int} {j : Nat}
theorem patsFrom_end (h : ¬ j < l.length) : patsFrom z ni l j e = 0 := by
  unfold patsFrom; rw [List.drop_eq_nil_of_le (by omega)]; rfl
theorem patsFrom_err (h : j < l.length) (h1 : patErr z ni e l[j] ≠ 0) : patsFrom z ni l j e = patErr z ni e l[j] := by
  unfold patsFrom; rw [List.drop_eq_getElem_cons h]; unfold patsErr; rw [if_pos h1]
theorem patsFrom_next (h : j < l.length) (h1 : patErr z ni e l[j] = 0) : patsFrom z ni l (j + 1) (l[j].at_ + widthOf l[j].kind) = patsFrom z ni l j e := by
  conv => rhs; unfold patsFrom; rw [List.drop_eq_getElem_cons h]; unfold patsErr; rw [if_neg (by omega)]
  rfl
end

def kernelBytes : ByteArray := ⟨#[107, 101, 114, 110, 101, 108]⟩
/-- what is wrong with a module -/
def modErr (m : Mod) : Int :=
  if isName m.name = false ∨ m.name = kernelBytes then 1
  else if m.major < 0 ∨ 255 < m.major ∨ m.minor < 0 ∨ 255 < m.minor then 3
  else if 256 < m.text.size ∨ 6 < m.ex.length ∨ 6 < m.im.length ∨ 12 < m.pa.length then 2
  else if m.text.size = 0 ∨ m.text.size % 4 ≠ 0 then 1
  else if expErr [] m.text.size m.ex ≠ 0 then expErr [] m.text.size m.ex
  else if impsErr [] m.im ≠ 0 then impsErr [] m.im
  else patsErr m.text.size m.im.length 0 m.pa

def manyOf (m : Mod) : Int := ((m.text.size : Int) + 63) / 64

end Go.Proofs.Ytjnfemcfohflnaa
