import Derived.Below
import Derived.Lib.SlicesCompact
section

namespace Go.Proofs.YtjiedaialianmaaGreat


/-- what is wrong with so many bytes of a text of z bytes from a place on -/
def checkWord (z at_ b : Int) : Int := if b < 1 ∨ 4 < b then 7 else if at_ < 0 ∨ z < at_ ∨ z - at_ < b then 3 else 0

theorem pow2_facts (k : Nat) (h1 : 1 ≤ k) (h : k ≤ 32) : (2 : Int) ≤ 2 ^ k ∧ (2 : Int) ^ k ≤ 4294967296 ∧ (2 : Int) ^ k % 2 = 0 := by
  have : ∀ k : Fin 33, 1 ≤ k.val → (2 : Int) ≤ 2 ^ k.val ∧ (2 : Int) ^ k.val ≤ 4294967296 ∧ (2 : Int) ^ k.val % 2 = 0 := by decide
  exact this ⟨k, by omega⟩ h1

theorem checkWord_ok {z a b : Int} (h : checkWord z a b = 0) : 1 ≤ b ∧ b ≤ 4 ∧ 0 ≤ a ∧ a ≤ z ∧ b ≤ z - a := by
  unfold checkWord at h
  split at h
  · omega
  · split at h <;> omega

theorem checkWord_of {z a b : Int} (h1 : 1 ≤ b) (h2 : b ≤ 4) (h3 : 0 ≤ a) (h4 : b ≤ z - a) : checkWord z a b = 0 := by
  unfold checkWord; rw [if_neg (by omega), if_neg (by omega)]

/-- the digits of a number to the base 256, the least first -/
def digits (n : Int) : Nat → List UInt8
  | 0 => []
  | k + 1 => UInt8.ofNat (n % 256).toNat :: digits (n / 256) k

/-- the number of some digits -/
def num : List UInt8 → Int
  | [] => 0
  | b :: l => (b.toNat : Int) + 256 * num l

theorem digits_length (n : Int) (k : Nat) : (digits n k).length = k := by
  induction k generalizing n with
  | zero => rfl
  | succ k ih => simp [digits, ih]

def p256 : Nat → Int
  | 0 => 1
  | k + 1 => 256 * p256 k

theorem p256_pos (k : Nat) : 1 ≤ p256 k := by
  induction k with
  | zero => simp [p256]
  | succ k ih => simp only [p256]; omega

theorem p256_pow (k : Nat) : p256 k = 2 ^ (8 * k) := by
  induction k with
  | zero => rfl
  | succ k ih => rw [p256, ih, Nat.mul_succ, Int.pow_add]; omega

theorem p256_le (k : Nat) (h : k ≤ 4) : p256 k ≤ 4294967296 := by
  have : ∀ q : Fin 5, p256 q.val ≤ 4294967296 := by decide
  exact this ⟨k, by omega⟩

theorem ofNat_mod (n : Int) : ((UInt8.ofNat (n % 256).toNat).toNat : Int) = n % 256 := by
  simp only [UInt8.toNat_ofNat']
  have : (n % 256).toNat < 256 := by omega
  omega

theorem num_digits (n : Int) (k : Nat) : num (digits n k) = n % p256 k := by
  induction k generalizing n with
  | zero => simp [num, digits, p256, Int.emod_one]
  | succ k ih =>
    simp only [digits, num, ih, ofNat_mod, p256]
    generalize hP : p256 k = P
    have hp : 1 ≤ P := hP ▸ p256_pos k
    have e1 : n = 256 * (n / 256) + n % 256 := by omega
    have e2 : n / 256 = P * (n / 256 / P) + n / 256 % P := (Int.mul_ediv_add_emod _ _).symm
    have h0 := Int.emod_nonneg (n / 256) (show P ≠ 0 by omega)
    have h1 := Int.emod_lt_of_pos (n / 256) (show 0 < P by omega)
    have h2 : n = (n % 256 + 256 * (n / 256 % P)) + (256 * P) * (n / 256 / P) := by
      conv => lhs; rw [e1, e2]
      rw [Int.mul_add, Int.mul_assoc]; omega
    conv => rhs; rw [h2]
    rw [Int.add_mul_emod_self_left]
    refine (Int.emod_eq_of_lt (by omega) ?_).symm
    omega

theorem digits_num (l : List UInt8) : digits (num l) l.length = l := by
  induction l with
  | nil => rfl
  | cons b l ih =>
    have hb := b.toNat_lt
    simp only [num, List.length_cons, digits]
    have e1 : ((b.toNat : Int) + 256 * num l) % 256 = b.toNat := by omega
    have e2 : ((b.toNat : Int) + 256 * num l) / 256 = num l := by omega
    rw [e1, e2, ih]
    simp

theorem digits_mod (n : Int) (k : Nat) : digits (n % p256 k) k = digits n k := by
  have h := digits_num (digits n k)
  rw [num_digits, digits_length] at h
  exact h

theorem digits_snoc (n : Int) (k : Nat) : digits n (k + 1) = digits n k ++ [UInt8.ofNat (n / p256 k % 256).toNat] := by
  induction k generalizing n with
  | zero => simp [digits, p256]
  | succ k ih =>
    have e : n / 256 / p256 k = n / p256 (k + 1) := by rw [p256, Int.ediv_ediv_of_nonneg (by omega)]
    rw [digits, ih, digits, e]; rfl

theorem p256_step (n : Int) (k : Nat) : n / p256 k / 256 = n / p256 (k + 1) := by
  have := p256_pos k
  rw [p256, Int.mul_comm, Int.ediv_ediv_of_nonneg (by omega)]

theorem tdiv2 (x : Int) : x.tdiv 2 = if 0 ≤ x then x / 2 else -((-x) / 2) := by
  split
  · exact Int.tdiv_eq_ediv_of_nonneg (by assumption)
  · rw [show x.tdiv 2 = -((-x).tdiv 2) from by rw [Int.neg_tdiv, Int.neg_neg], Int.tdiv_eq_ediv_of_nonneg (by omega)]
theorem tmod2 (x : Int) : x.tmod 2 = if 0 ≤ x then x % 2 else -((-x) % 2) := by
  split
  · exact Int.tmod_eq_emod_of_nonneg (by assumption)
  · rw [show x.tmod 2 = -((-x).tmod 2) from by rw [Int.neg_tmod, Int.neg_neg], Int.tmod_eq_emod_of_nonneg (by omega)]


/-- how many bytes a kind of patches has; 0: there is none -/
def widthOf (k : Int) : Int := if k = 1 ∨ k = 2 then 4 else if k = 3 ∨ k = 4 then 2 else if k = 5 then 3 else 0

theorem widthOf_cases (k : Int) : (k = 1 ∧ widthOf k = 4) ∨ (k = 2 ∧ widthOf k = 4) ∨ (k = 3 ∧ widthOf k = 2) ∨ (k = 4 ∧ widthOf k = 2) ∨ (k = 5 ∧ widthOf k = 3) ∨ ((k < 1 ∨ 5 < k) ∧ widthOf k = 0) := by
  unfold widthOf; (repeat' split) <;> omega

/-- what is wrong with a patch's value -/
def valueErr (kind sym add place : Int) : Int :=
  if widthOf kind = 0 then 7 else if sym < 0 ∨ 65535 < sym ∨ place < 0 ∨ 65535 < place ∨ add < 0 ∨ 65535 < add then 3
  else if kind = 5 ∧ (sym + add - place) % 2 = 1 then 4 else 0

/-- what stands there then, before it is cut to its bytes -/
def valueRaw (kind sym add place : Int) : Int :=
  if kind = 2 then sym + add - place else if kind = 3 then (sym + add) / 65536 else if kind = 5 then (sym + add - place) / 2 else sym + add

def valueNum (kind sym add place : Int) : Int :=
  if valueErr kind sym add place = 0 then valueRaw kind sym add place % p256 (widthOf kind).toNat else 0

/-- what is wrong with a patch of a text of z bytes -/
def applyErr (z kind at_ add sym base : Int) : Int :=
  if widthOf kind = 0 then 7 else if add < 0 ∨ 65535 < add ∨ at_ < 0 ∨ z - widthOf kind < at_ ∨ base < 0 ∨ 65279 < base then 3 else valueErr kind sym add (base + at_)

end Go.Proofs.YtjiedaialianmaaGreat
end

section

open Go
namespace Go.Proofs.YtjiedaialianmaaGreat

structure Exp where
  name : ByteArray
  at_ : Int
structure Imp where
  mod : ByteArray
  name : ByteArray
  major : Int
  minor : Int
structure Pat where
  kind : Int
  at_ : Int
  sym : Int
  add : Int
/-- a module as it lies in memory: what it holds, and where its three rows lie -/
structure Mod where
  name : ByteArray
  major : Int
  minor : Int
  text : ByteArray
  ex : List Exp
  im : List Imp
  pa : List Pat
  eA : Option Addr
  eC : Nat
  iA : Option Addr
  iC : Nat
  pA : Option Addr
  pC : Nat
structure Plc where
  m : Mod
  first : Int
structure Krn where
  major : Int
  minor : Int
  ex : List Exp
  eA : Option Addr
  eC : Nat


def okByte (c : UInt8) : Bool := (decide (97 ≤ c.toNat) && decide (c.toNat ≤ 122)) || (decide (48 ≤ c.toNat) && decide (c.toNat ≤ 57)) || decide (c.toNat = 95)
def okFirst (l : List UInt8) : Bool := match l with
  | [] => false
  | c :: _ => decide (97 ≤ c.toNat) && decide (c.toNat ≤ 122)
def isName (s : ByteArray) : Bool := decide (s.size ≤ 10) && okFirst s.data.toList && s.data.toList.all okByte


def expErr (seen : List ByteArray) (most : Int) : List Exp → Int
  | [] => 0
  | x :: l => if isName x.name = false then 1 else if seen.any (fun y => decide (y = x.name)) = true then 6 else if x.at_ < 0 ∨ most ≤ x.at_ then 3 else expErr (x.name :: seen) most l

def impErr (x : Imp) : Int :=
  if isName x.mod = false ∨ isName x.name = false then 1 else if x.major < 0 ∨ 255 < x.major ∨ x.minor < 0 ∨ 255 < x.minor then 3 else 0
def impsErr (seen : List (ByteArray × ByteArray)) : List Imp → Int
  | [] => 0
  | x :: l => if impErr x = 1 then 1 else if seen.any (fun y => decide (y.1 = x.mod) && decide (y.2 = x.name)) = true then 6 else if impErr x ≠ 0 then impErr x else impsErr ((x.mod, x.name) :: seen) l

def patErr (z ni end_ : Int) (p : Pat) : Int :=
  if widthOf p.kind = 0 then 7 else if p.sym < -1 ∨ ni ≤ p.sym ∨ p.add < 0 ∨ 65535 < p.add ∨ p.at_ < 0 ∨ z - widthOf p.kind < p.at_ then 3
  else if p.at_ < end_ then 4 else 0
def patsErr (z ni : Int) (end_ : Int) : List Pat → Int
  | [] => 0
  | p :: l => if patErr z ni end_ p ≠ 0 then patErr z ni end_ p else patsErr z ni (p.at_ + widthOf p.kind) l


def expFrom (l : List Exp) (most : Int) (j : Nat) : Int := expErr ((l.take j).map (·.name)).reverse most (l.drop j)
theorem seen_map {α β : Type} (l : List α) (f : α → β) (j : Nat) (p : β → Bool) (h : j ≤ l.length) : ((l.take j).map f).reverse.any p = true ↔ ∃ k, ∃ hk : k < l.length, k < j ∧ p (f l[k]) = true := by
  rw [List.any_eq_true]
  constructor
  · rintro ⟨y, hy, hp⟩
    rw [List.mem_reverse, List.mem_map] at hy
    obtain ⟨z, hz, rfl⟩ := hy
    rw [List.mem_take_iff_getElem] at hz
    obtain ⟨k, hk1, rfl⟩ := hz
    exact ⟨k, by omega, by omega, hp⟩
  · rintro ⟨k, hk, hkj, hp⟩
    refine ⟨f l[k], ?_, hp⟩
    rw [List.mem_reverse, List.mem_map]
    exact ⟨l[k], by rw [List.mem_take_iff_getElem]; exact ⟨k, by omega, rfl⟩, rfl⟩
theorem take_map_succ {α β : Type} (l : List α) (f : α → β) (j : Nat) (h : j < l.length) : ((l.take (j + 1)).map f).reverse = f l[j] :: ((l.take j).map f).reverse := by
  rw [← List.take_append_getElem h, List.map_append, List.reverse_append]; rfl
section
variable {l : List Exp} {most : Int} {j : Nat}
theorem expFrom_end (h : ¬ j < l.length) : expFrom l most j = 0 := by
  unfold expFrom; rw [List.drop_eq_nil_of_le (by omega)]; rfl
theorem expFrom_form (h : j < l.length) (h1 : isName l[j].name = false) : expFrom l most j = 1 := by
  unfold expFrom; rw [List.drop_eq_getElem_cons h]; unfold expErr; rw [if_pos h1]
theorem expFrom_twice (h : j < l.length) (h1 : isName l[j].name = true) {k : Nat} (hk : k < l.length) (hkj : k < j) (e : l[k].name = l[j].name) : expFrom l most j = 6 := by
  unfold expFrom; rw [List.drop_eq_getElem_cons h]; unfold expErr; rw [if_neg (by simp [h1]), if_pos]
  exact (seen_map l _ j _ (by omega)).2 ⟨k, hk, hkj, by simp [e]⟩
theorem exp_unseen (h : j < l.length) (hn : ∀ k (hk : k < l.length), k < j → l[k].name ≠ l[j].name) : ¬ (((l.take j).map (·.name)).reverse.any (fun y => decide (y = l[j].name)) = true) := by
  rw [seen_map l _ j _ (by omega)]
  rintro ⟨k, hk, hkj, e⟩
  exact hn k hk hkj (by simpa using e)
theorem expFrom_range (h : j < l.length) (h1 : isName l[j].name = true) (hn : ∀ k (hk : k < l.length), k < j → l[k].name ≠ l[j].name) (hr : l[j].at_ < 0 ∨ most ≤ l[j].at_) : expFrom l most j = 3 := by
  unfold expFrom; rw [List.drop_eq_getElem_cons h]; unfold expErr; rw [if_neg (by simp [h1]), if_neg (exp_unseen h hn), if_pos hr]
theorem expFrom_next (h : j < l.length) (h1 : isName l[j].name = true) (hn : ∀ k (hk : k < l.length), k < j → l[k].name ≠ l[j].name) (hr : 0 ≤ l[j].at_ ∧ l[j].at_ < most) : expFrom l most (j + 1) = expFrom l most j := by
  conv => rhs; unfold expFrom; rw [List.drop_eq_getElem_cons h]; unfold expErr; rw [if_neg (by simp [h1]), if_neg (exp_unseen h hn), if_neg (by omega)]
  unfold expFrom; rw [take_map_succ l _ j h]
end

def impsFrom (l : List Imp) (j : Nat) : Int := impsErr ((l.take j).map (fun x => (x.mod, x.name))).reverse (l.drop j)
theorem impErr_cases (x : Imp) : impErr x = 0 ∨ impErr x = 1 ∨ impErr x = 3 := by
  unfold impErr; (repeat' split) <;> simp
section
variable {l : List Imp} {j : Nat}
theorem impsFrom_end (h : ¬ j < l.length) : impsFrom l j = 0 := by
  unfold impsFrom; rw [List.drop_eq_nil_of_le (by omega)]; rfl
theorem impsFrom_form (h : j < l.length) (h1 : impErr l[j] = 1) : impsFrom l j = 1 := by
  unfold impsFrom; rw [List.drop_eq_getElem_cons h]; unfold impsErr; rw [if_pos h1]
theorem impsFrom_twice (h : j < l.length) (h1 : impErr l[j] ≠ 1) {k : Nat} (hk : k < l.length) (hkj : k < j) (e : l[k].mod = l[j].mod ∧ l[k].name = l[j].name) : impsFrom l j = 6 := by
  unfold impsFrom; rw [List.drop_eq_getElem_cons h]; unfold impsErr; rw [if_neg h1, if_pos]
  exact (seen_map l _ j _ (by omega)).2 ⟨k, hk, hkj, by simp [e.1, e.2]⟩
theorem imp_unseen (h : j < l.length) (hn : ∀ k (hk : k < l.length), k < j → ¬ (l[k].mod = l[j].mod ∧ l[k].name = l[j].name)) : ¬ (((l.take j).map (fun x => (x.mod, x.name))).reverse.any (fun y => decide (y.1 = l[j].mod) && decide (y.2 = l[j].name)) = true) := by
  rw [seen_map l _ j _ (by omega)]
  rintro ⟨k, hk, hkj, e⟩
  exact hn k hk hkj (by simpa using e)
theorem impsFrom_range (h : j < l.length) (h1 : impErr l[j] = 3) (hn : ∀ k (hk : k < l.length), k < j → ¬ (l[k].mod = l[j].mod ∧ l[k].name = l[j].name)) : impsFrom l j = 3 := by
  unfold impsFrom; rw [List.drop_eq_getElem_cons h]; unfold impsErr; rw [if_neg (by omega), if_neg (imp_unseen h hn), if_pos (by omega), h1]
theorem impsFrom_next (h : j < l.length) (h1 : impErr l[j] = 0) (hn : ∀ k (hk : k < l.length), k < j → ¬ (l[k].mod = l[j].mod ∧ l[k].name = l[j].name)) : impsFrom l (j + 1) = impsFrom l j := by
  conv => rhs; unfold impsFrom; rw [List.drop_eq_getElem_cons h]; unfold impsErr; rw [if_neg (by omega), if_neg (imp_unseen h hn), if_neg (by omega)]
  unfold impsFrom; rw [take_map_succ l _ j h]
end

def patsFrom (z ni : Int) (l : List Pat) (j : Nat) (end_ : Int) : Int := patsErr z ni end_ (l.drop j)
section
variable {l : List Pat} {z ni e : Int} {j : Nat}
theorem patsFrom_end (h : ¬ j < l.length) : patsFrom z ni l j e = 0 := by
  unfold patsFrom; rw [List.drop_eq_nil_of_le (by omega)]; rfl
theorem patsFrom_err (h : j < l.length) (h1 : patErr z ni e l[j] ≠ 0) : patsFrom z ni l j e = patErr z ni e l[j] := by
  unfold patsFrom; rw [List.drop_eq_getElem_cons h]; unfold patsErr; rw [if_pos h1]
theorem patsFrom_next (h : j < l.length) (h1 : patErr z ni e l[j] = 0) : patsFrom z ni l (j + 1) (l[j].at_ + widthOf l[j].kind) = patsFrom z ni l j e := by
  conv => rhs; unfold patsFrom; rw [List.drop_eq_getElem_cons h]; unfold patsErr; rw [if_neg (by omega)]
  rfl
end

def kernelBytes : ByteArray := ⟨#[107, 101, 114, 110, 101, 108]⟩
/-- what is wrong with a module -/
def modErr (m : Mod) : Int :=
  if isName m.name = false ∨ m.name = kernelBytes then 1
  else if m.major < 0 ∨ 255 < m.major ∨ m.minor < 0 ∨ 255 < m.minor then 3
  else if 256 < m.text.size ∨ 6 < m.ex.length ∨ 6 < m.im.length ∨ 12 < m.pa.length then 2
  else if m.text.size = 0 ∨ m.text.size % 4 ≠ 0 then 1
  else if expErr [] m.text.size m.ex ≠ 0 then expErr [] m.text.size m.ex
  else if impsErr [] m.im ≠ 0 then impsErr [] m.im
  else patsErr m.text.size m.im.length 0 m.pa

def manyOf (m : Mod) : Int := ((m.text.size : Int) + 63) / 64

end Go.Proofs.YtjiedaialianmaaGreat
end

section

open Go
namespace Go.Proofs.YtjiedaialianmaaGreat

def modsErr (q : Plc → Bool) : List Plc → Int
  | [] => 0
  | x :: l => if modErr x.m ≠ 0 then modErr x.m else if q x = false then 3 else modsErr q l
def modsAll (q : Plc → Bool) (l : List Plc) : Int := if 8 < l.length then 2 else modsErr q l
def modsFrom (q : Plc → Bool) (l : List Plc) (j : Nat) : Int := modsErr q (l.drop j)
section
variable {q : Plc → Bool} {l : List Plc} {j : Nat}
theorem modsFrom_end (h : ¬ j < l.length) : modsFrom q l j = 0 := by
  unfold modsFrom; rw [List.drop_eq_nil_of_le (by omega)]; rfl
theorem modsFrom_err (h : j < l.length) (h1 : modErr l[j].m ≠ 0) : modsFrom q l j = modErr l[j].m := by
  unfold modsFrom; rw [List.drop_eq_getElem_cons h]; unfold modsErr; rw [if_pos h1]
theorem modsFrom_no (h : j < l.length) (h1 : modErr l[j].m = 0) (h2 : q l[j] = false) : modsFrom q l j = 3 := by
  unfold modsFrom; rw [List.drop_eq_getElem_cons h]; unfold modsErr; rw [if_neg (by omega), if_pos h2]
theorem modsFrom_next (h : j < l.length) (h1 : modErr l[j].m = 0) (h2 : q l[j] = true) : modsFrom q l (j + 1) = modsFrom q l j := by
  conv => rhs; unfold modsFrom; rw [List.drop_eq_getElem_cons h]; unfold modsErr; rw [if_neg (by omega), if_neg (by simp [h2])]
  rfl
end
theorem modsErr_ok {q : Plc → Bool} : ∀ {l : List Plc}, modsErr q l = 0 → ∀ x ∈ l, modErr x.m = 0 ∧ q x = true
  | y :: l, h, x, hx => by
    unfold modsErr at h
    split at h
    · contradiction
    · split at h
      · cases h
      · rcases List.mem_cons.1 hx with rfl | hx
        · exact ⟨by omega, by simpa using ‹¬ q x = false›⟩
        · exact modsErr_ok h x hx
theorem modsAll_ok {q : Plc → Bool} {l : List Plc} (h : modsAll q l = 0) : l.length ≤ 8 ∧ ∀ x ∈ l, modErr x.m = 0 ∧ q x = true := by
  unfold modsAll at h
  split at h
  · cases h
  · exact ⟨by omega, modsErr_ok h⟩
theorem modErr_facts {m : Mod} (h : modErr m = 0) : isName m.name = true ∧ m.name ≠ kernelBytes ∧ m.text.size ≤ 256 ∧ 1 ≤ m.text.size ∧ m.text.size % 4 = 0 ∧ m.ex.length ≤ 6 ∧ m.im.length ≤ 6 ∧ m.pa.length ≤ 12 ∧ expErr [] m.text.size m.ex = 0 ∧ impsErr [] m.im = 0 ∧
    (0 ≤ m.major ∧ m.major ≤ 255 ∧ 0 ≤ m.minor ∧ m.minor ≤ 255) := by
  unfold modErr at h
  by_cases h1 : isName m.name = false ∨ m.name = kernelBytes
  · rw [if_pos h1] at h; omega
  rw [if_neg h1] at h
  by_cases h2 : m.major < 0 ∨ 255 < m.major ∨ m.minor < 0 ∨ 255 < m.minor
  · rw [if_pos h2] at h; omega
  rw [if_neg h2] at h
  by_cases h3 : 256 < m.text.size ∨ 6 < m.ex.length ∨ 6 < m.im.length ∨ 12 < m.pa.length
  · rw [if_pos h3] at h; omega
  rw [if_neg h3] at h
  by_cases h4 : m.text.size = 0 ∨ m.text.size % 4 ≠ 0
  · rw [if_pos h4] at h; omega
  rw [if_neg h4] at h
  by_cases h5 : expErr [] m.text.size m.ex = 0
  · rw [if_neg (by omega)] at h
    by_cases h6 : impsErr [] m.im = 0
    · simp only [not_or] at h1
      exact ⟨by simpa using h1.1, h1.2, by omega, by omega, by omega, by omega, by omega, by omega, h5, h6, by omega⟩
    · rw [if_pos h6] at h; omega
  · rw [if_pos h5] at h; omega

theorem expErr_ok {most : Int} : ∀ {l : List Exp} {seen : List ByteArray}, expErr seen most l = 0 → ∀ x ∈ l, isName x.name = true ∧ 0 ≤ x.at_ ∧ x.at_ < most
  | y :: l, seen, h, x, hx => by
    unfold expErr at h
    by_cases h1 : isName y.name = false
    · rw [if_pos h1] at h; omega
    rw [if_neg h1] at h
    split at h
    · omega
    · by_cases h2 : y.at_ < 0 ∨ most ≤ y.at_
      · rw [if_pos h2] at h; omega
      rw [if_neg h2] at h
      rcases List.mem_cons.1 hx with rfl | hx
      · exact ⟨by simpa using h1, by omega, by omega⟩
      · exact expErr_ok h x hx

def krnErr (k : Krn) : Int :=
  if k.major < 0 ∨ 255 < k.major ∨ k.minor < 0 ∨ 255 < k.minor then 3 else if 8 < k.ex.length then 2 else expErr [] 4096 k.ex
def resQ (x : Plc) : Bool := decide (0 ≤ x.first) && decide (x.first ≤ 15)
def regQ (x : Plc) : Bool := decide (0 ≤ x.first) && decide (x.first ≤ 16 - manyOf x.m)
def refQ (first whole : Bool) (x : Plc) : Bool := !first || (decide (0 ≤ x.first) && decide (x.first ≤ 16 - (if whole then manyOf x.m else 1)))
def placedErr (k : Krn) (l : List Plc) : Int := if krnErr k ≠ 0 then krnErr k else modsAll resQ l
theorem refQ_reg : refQ true true = regQ := by funext x; simp [refQ, regQ]
theorem placed_ok {k : Krn} {l : List Plc} (h : placedErr k l = 0) : krnErr k = 0 ∧ modsAll resQ l = 0 := by
  unfold placedErr at h
  by_cases h1 : krnErr k = 0
  · rw [if_neg (by omega)] at h; exact ⟨h1, h⟩
  · rw [if_pos h1] at h; omega
theorem krn_ok {k : Krn} (h : krnErr k = 0) : ∀ x ∈ k.ex, isName x.name = true ∧ 0 ≤ x.at_ ∧ x.at_ < 4096 := by
  unfold krnErr at h
  split at h
  · omega
  split at h
  · omega
  · exact expErr_ok h

/-- the first place at which it holds; -1: there is none -/
def idxOf {α : Type} (q : α → Bool) : List α → Int
  | [] => -1
  | x :: l => if q x = true then 0 else if idxOf q l < 0 then -1 else idxOf q l + 1
theorem idxOf_none {α : Type} {q : α → Bool} : ∀ {l : List α}, (∀ j (h : j < l.length), q l[j] = false) → idxOf q l = -1
  | [], _ => rfl
  | x :: l, h => by
    unfold idxOf
    have h0 : q x = false := h 0 (by simp)
    rw [if_neg (by simp [h0])]
    rw [idxOf_none (l := l) (fun j hj => h (j + 1) (by simpa using hj))]; rfl
theorem idxOf_some {α : Type} {q : α → Bool} : ∀ {l : List α} {j : Nat} (hj : j < l.length), (∀ k (h : k < l.length), k < j → q l[k] = false) → q l[j] = true → idxOf q l = j
  | x :: l, 0, _, _, h => by
    have h0 : q x = true := h
    unfold idxOf; rw [if_pos h0]; rfl
  | x :: l, j + 1, hj, hn, h => by
    unfold idxOf
    have h0 : q x = false := hn 0 (by simp) (by omega)
    rw [if_neg (by simp [h0])]
    have := idxOf_some (q := q) (l := l) (j := j) (by simpa using hj) (fun k hk hkj => hn (k + 1) (by simpa using hk) (by omega)) h
    rw [this, if_neg (by omega)]; omega
/-- either nothing is there, or it is the first -/
theorem idxOf_cases {α : Type} (q : α → Bool) (l : List α) : (idxOf q l = -1 ∧ ∀ x ∈ l, q x = false) ∨ ∃ j, ∃ h : j < l.length, idxOf q l = j ∧ q l[j] = true ∧ ∀ k (hk : k < l.length), k < j → q l[k] = false := by
  by_cases h : ∀ x ∈ l, q x = false
  · exact .inl ⟨idxOf_none (fun j hj => h _ (List.getElem_mem _)), h⟩
  · refine .inr ?_
    have : ∃ j, ∃ h : j < l.length, q l[j] = true := by
      obtain ⟨x, hx⟩ := Classical.not_forall.1 h
      obtain ⟨hx, hq⟩ := Classical.not_imp.1 hx
      obtain ⟨j, hj, rfl⟩ := List.getElem_of_mem hx
      exact ⟨j, hj, by simpa using hq⟩
    have hmin : ∃ j, (∃ h : j < l.length, q l[j] = true) ∧ ∀ k, k < j → ¬ ∃ h : k < l.length, q l[k] = true := by
      obtain ⟨j, hj⟩ := this
      induction j using Nat.strongRecOn with
      | _ j ih =>
        by_cases hk : ∃ k, k < j ∧ ∃ h : k < l.length, q l[k] = true
        · obtain ⟨k, hkj, hk⟩ := hk; exact ih k hkj hk
        · exact ⟨j, hj, fun k hkj hk' => hk ⟨k, hkj, hk'⟩⟩
    obtain ⟨j, ⟨hj, hq⟩, hn⟩ := hmin
    have hn' : ∀ k (hk : k < l.length), k < j → q l[k] = false := fun k hk hkj => by
      cases hqk : q l[k]
      · rfl
      · exact absurd ⟨hk, hqk⟩ (hn k hkj)
    exact ⟨j, hj, idxOf_some hj hn' hq, hq, hn'⟩

def named (nm : ByteArray) (x : Plc) : Bool := decide (x.m.name = nm)
def called (nm : ByteArray) (x : Exp) : Bool := decide (x.name = nm)
/-- where an export is: its place and 0; 0 and 5: there is none -/
def expAt (l : List Exp) (nm : ByteArray) : Int × Int := match l.find? (called nm) with
  | some x => (x.at_, 0)
  | none => (0, 5)
def addrOf (k : Krn) (l : List Plc) (i : Imp) : Int × Int :=
  if i.mod = kernelBytes then (if k.major ≠ i.major ∨ k.minor < i.minor then (0, 4) else expAt k.ex i.name)
  else match l.find? (named i.mod) with
    | none => (0, 5)
    | some x => if x.m.major ≠ i.major ∨ x.m.minor < i.minor then (0, 4) else
      if (expAt x.m.ex i.name).2 ≠ 0 then (0, 5) else (4096 + 64 * x.first + (expAt x.m.ex i.name).1, 0)
theorem find_cases {α : Type} (q : α → Bool) (l : List α) : (idxOf q l = -1 ∧ l.find? q = none) ∨ ∃ j, ∃ h : j < l.length, idxOf q l = j ∧ l.find? q = some l[j] := by
  rcases idxOf_cases q l with ⟨h1, h2⟩ | ⟨j, hj, h1, h2, h3⟩
  · exact .inl ⟨h1, List.find?_eq_none.2 (fun x hx => by simp [h2 x hx])⟩
  · refine .inr ⟨j, hj, h1, ?_⟩
    rw [List.find?_eq_some_iff_getElem]
    exact ⟨h2, j, hj, rfl, fun k hk => by simp [h3 k (by omega) hk]⟩

/-- the addresses of some imports, or what is wrong with the first that is not right -/
def addrsOf (k : Krn) (l : List Plc) : List Imp → List Int × Int
  | [] => ([], 0)
  | i :: r => if (addrOf k l i).2 ≠ 0 then ([], (addrOf k l i).2) else if (addrsOf k l r).2 ≠ 0 then ([], (addrsOf k l r).2) else ((addrOf k l i).1 :: (addrsOf k l r).1, 0)

theorem addrs_shape {k : Krn} {l : List Plc} : ∀ {r : List Imp}, (addrsOf k l r).2 ≠ 0 → (addrsOf k l r).1 = []
  | [], h => absurd rfl h
  | i :: r, h => by
    unfold addrsOf at h ⊢
    split
    · rfl
    · split
      · rfl
      · rename_i h1 h2
        rw [if_neg h1, if_neg h2] at h
        exact absurd rfl h
/-- what has been told so far, and what is to come -/
def glue (pre : List Int) (r : List Int × Int) : List Int × Int := if r.2 ≠ 0 then ([], r.2) else (pre ++ r.1, 0)
theorem glue_nil {k : Krn} {l : List Plc} {r : List Imp} : glue [] (addrsOf k l r) = addrsOf k l r := by
  unfold glue
  by_cases h : (addrsOf k l r).2 = 0
  · rw [if_neg (by omega)]; simp [← h]
  · rw [if_pos h, ← addrs_shape h]
theorem glue_end {k : Krn} {l : List Plc} {r : List Imp} {pre : List Int} {j : Nat} (h : ¬ j < r.length) : glue pre (addrsOf k l (r.drop j)) = (pre, 0) := by
  rw [List.drop_eq_nil_of_le (by omega)]; simp [addrsOf, glue]
theorem glue_err {k : Krn} {l : List Plc} {r : List Imp} {pre : List Int} {j : Nat} (h : j < r.length) (he : (addrOf k l r[j]).2 ≠ 0) : glue pre (addrsOf k l (r.drop j)) = ([], (addrOf k l r[j]).2) := by
  rw [List.drop_eq_getElem_cons h]; unfold addrsOf; rw [if_pos he]; unfold glue; rw [if_pos he]
theorem addrs_cons {k : Krn} {l : List Plc} {i : Imp} {r : List Imp} (he : (addrOf k l i).2 = 0) : addrsOf k l (i :: r) = if (addrsOf k l r).2 ≠ 0 then ([], (addrsOf k l r).2) else ((addrOf k l i).1 :: (addrsOf k l r).1, 0) := by
  rw [addrsOf, if_neg (by simp [he])]
theorem glue_ok {k : Krn} {l : List Plc} {r : List Imp} {pre : List Int} {j : Nat} (h : j < r.length) (he : (addrOf k l r[j]).2 = 0) : glue (pre ++ [(addrOf k l r[j]).1]) (addrsOf k l (r.drop (j + 1))) = glue pre (addrsOf k l (r.drop j)) := by
  rw [List.drop_eq_getElem_cons h, addrs_cons he]
  by_cases hr : (addrsOf k l (r.drop (j + 1))).2 = 0
  · rw [if_neg (by simp [hr])]; unfold glue; rw [if_neg (by simp [hr]), if_neg (by simp)]; simp
  · rw [if_pos hr]; unfold glue; rw [if_pos hr, if_pos hr]

end Go.Proofs.YtjiedaialianmaaGreat
end

section

open Go
namespace Go.Proofs.YtjiedaialianmaaGreat

structure Run where
  first : Int
  many : Int
def endOf (x : Plc) : Int := x.first + manyOf x.m
def gapRun (a b : Int) : List Run := if a < b then [⟨a, b - a⟩] else []
def runsFrom : Int → List Plc → List Run
  | a, [] => gapRun a 16
  | a, x :: l => gapRun a x.first ++ runsFrom (endOf x) l
def runsOf (l : List Plc) : List Run := runsFrom 0 l
def adjErr : List Plc → Int
  | x :: y :: l => if y.first < endOf x then 4 else adjErr (y :: l)
  | _ => 0
def adjFrom (l : List Plc) (j : Nat) : Int := adjErr (l.drop (j - 1))
section
variable {l : List Plc} {j : Nat}
theorem adjFrom_end (h : ¬ j < l.length) : adjFrom l j = 0 := by
  unfold adjFrom
  by_cases h1 : j - 1 < l.length
  · rw [List.drop_eq_getElem_cons h1, List.drop_eq_nil_of_le (by omega)]; rfl
  · rw [List.drop_eq_nil_of_le (by omega)]; rfl
theorem drop_two (h : j < l.length) (h1 : 1 ≤ j) : l.drop (j - 1) = l[j - 1] :: l[j] :: l.drop (j + 1) := by
  rw [List.drop_eq_getElem_cons (show j - 1 < l.length by omega), show j - 1 + 1 = j by omega, List.drop_eq_getElem_cons h]
theorem adjFrom_bad (h : j < l.length) (h1 : 1 ≤ j) (hb : l[j].first < endOf l[j - 1]) : adjFrom l j = 4 := by
  unfold adjFrom
  rw [drop_two h h1]
  unfold adjErr
  rw [if_pos hb]
theorem adjFrom_next (h : j < l.length) (h1 : 1 ≤ j) (hb : ¬ l[j].first < endOf l[j - 1]) : adjFrom l (j + 1) = adjFrom l j := by
  have e : adjFrom l j = adjErr (l[j] :: l.drop (j + 1)) := by
    unfold adjFrom
    rw [drop_two h h1, adjErr, if_neg hb]
  rw [e]
  unfold adjFrom
  rw [show j + 1 - 1 = j by omega, List.drop_eq_getElem_cons h]
theorem adjFrom_one : adjFrom l 1 = adjErr l := rfl
end
def regErr (l : List Plc) : Int := if modsAll regQ l ≠ 0 then modsAll regQ l else adjErr l
theorem regErr_zero {l : List Plc} (h : regErr l = 0) : modsAll regQ l = 0 ∧ adjErr l = 0 := by
  unfold regErr at h
  by_cases h1 : modsAll regQ l = 0
  · rw [if_neg (by omega)] at h; exact ⟨h1, h⟩
  · rw [if_pos h1] at h; exact absurd h h1

/-- they stand in order from sector a on, in sectors 0 to 15 -/
def Row16 : Int → List Plc → Prop
  | a, [] => a ≤ 16
  | a, x :: l => a ≤ x.first ∧ 1 ≤ manyOf x.m ∧ manyOf x.m ≤ 4 ∧ Row16 (endOf x) l
theorem Row16.le : ∀ {l : List Plc} {a : Int}, Row16 a l → a ≤ 16
  | [], _, h => h
  | x :: l, a, ⟨h1, h2, _, h4⟩ => by have := h4.le; unfold endOf at this; omega
theorem many_ok {m : Mod} (h : modErr m = 0) : 1 ≤ manyOf m ∧ manyOf m ≤ 4 := by
  obtain ⟨_, _, h1, h2, _⟩ := modErr_facts h
  unfold manyOf
  omega
theorem row16_of : ∀ {l : List Plc} {a : Int}, a ≤ 16 → (∀ x ∈ l, modErr x.m = 0 ∧ regQ x = true) → adjErr l = 0 → (∀ x ∈ l.head?, a ≤ x.first) → Row16 a l
  | [], a, ha, _, _, _ => ha
  | x :: l, a, ha, h, h2, h3 => by
    obtain ⟨hx1, hx2⟩ := h x (by simp)
    simp only [regQ, Bool.and_eq_true, decide_eq_true_eq] at hx2
    obtain ⟨hm1, hm2⟩ := many_ok hx1
    refine ⟨h3 x (by simp), hm1, hm2, ?_⟩
    cases l with
    | nil => unfold Row16 endOf; omega
    | cons y l =>
      unfold adjErr at h2
      split at h2
      · cases h2
      · refine row16_of (by unfold endOf; omega) (fun z hz => h z (List.mem_cons_of_mem _ hz)) h2 (fun z hz => ?_)
        simp only [List.head?_cons, Option.mem_def, Option.some.injEq] at hz
        subst hz; omega
theorem reg_row {l : List Plc} (h : regErr l = 0) : l.length ≤ 8 ∧ (∀ x ∈ l, modErr x.m = 0 ∧ regQ x = true) ∧ Row16 0 l := by
  obtain ⟨h1, h2⟩ := regErr_zero h
  obtain ⟨h3, h4⟩ := modsAll_ok h1
  refine ⟨h3, h4, row16_of (by omega) h4 h2 (fun x hx => ?_)⟩
  have hm : x ∈ l := by
    cases l with
    | nil => simp at hx
    | cons y l => simp only [List.head?_cons, Option.mem_def, Option.some.injEq] at hx; subst hx; simp
  have := (h4 x hm).2
  simp only [regQ, Bool.and_eq_true, decide_eq_true_eq] at this
  omega
theorem Row16.adj : ∀ {l : List Plc} {a : Int}, Row16 a l → adjErr l = 0
  | [], _, _ => rfl
  | [_], _, _ => rfl
  | x :: y :: l, a, ⟨_, _, _, h⟩ => by
    unfold adjErr
    rw [if_neg (by have := h.1; omega)]
    exact Row16.adj h
theorem modsErr_zero {q : Plc → Bool} : ∀ {l : List Plc}, (∀ x ∈ l, modErr x.m = 0 ∧ q x = true) → modsErr q l = 0
  | [], _ => rfl
  | x :: l, h => by
    obtain ⟨h1, h2⟩ := h x (by simp)
    unfold modsErr
    rw [if_neg (by omega), if_neg (by simp [h2])]
    exact modsErr_zero fun y hy => h y (List.mem_cons_of_mem _ hy)
theorem reg_of {l : List Plc} (h1 : l.length ≤ 8) (h2 : ∀ x ∈ l, modErr x.m = 0 ∧ regQ x = true) (h3 : Row16 0 l) : regErr l = 0 := by
  have e : modsAll regQ l = 0 := by
    unfold modsAll
    rw [if_neg (by omega), modsErr_zero h2]
  unfold regErr
  rw [if_neg (by omega)]
  exact h3.adj
theorem Row16.lower {l : List Plc} {a b : Int} (h : Row16 a l) (hb : b ≤ a) : Row16 b l := by
  cases l with
  | nil => exact Int.le_trans hb h
  | cons x l => exact ⟨by have := h.1; omega, h.2⟩
theorem Row16.erase : ∀ {l : List Plc} {a : Int} (j : Nat), Row16 a l → Row16 a (l.eraseIdx j)
  | [], _, _, h => by simpa using h
  | x :: l, a, 0, ⟨h1, h2, _, h4⟩ => by
    simp only [List.eraseIdx_cons_zero]
    exact h4.lower (by unfold endOf; omega)
  | x :: l, a, j + 1, ⟨h1, h2, h3, h4⟩ => by
    simp only [List.eraseIdx_cons_succ]
    exact ⟨h1, h2, h3, h4.erase j⟩
theorem regErr_erase {l : List Plc} (h : regErr l = 0) (j : Nat) : regErr (l.eraseIdx j) = 0 := by
  obtain ⟨h1, h2, h3⟩ := reg_row h
  refine reg_of (by have := List.length_eraseIdx_le l j; omega) (fun x hx => h2 x (List.mem_of_mem_eraseIdx hx)) (h3.erase j)


def usedIn (l : List Plc) (i : Nat) : Bool := l.any fun x => decide (x.first ≤ i) && decide ((i : Int) < endOf x)
theorem usedIn_below : ∀ {l : List Plc} {a : Int} {i : Nat}, Row16 a l → (i : Int) < a → usedIn l i = false
  | [], _, _, _, _ => rfl
  | x :: l, a, i, ⟨h1, h2, h3, h4⟩, hi => by
    have := usedIn_below (i := i) h4 (by unfold endOf; omega)
    unfold usedIn at this ⊢
    rw [List.any_cons, this]
    simp; omega
def bump (out : List Run) : List Run := match out.getLast? with
  | none => out
  | some r => out.dropLast ++ [⟨r.first, r.many + 1⟩]
theorem bump_last (pre : List Run) (r : Run) : bump (pre ++ [r]) = pre ++ [⟨r.first, r.many + 1⟩] := by
  unfold bump
  simp
def freeUpto (u : Nat → Bool) : Nat → List Run
  | 0 => []
  | i + 1 => if u i = true then freeUpto u i else if 0 < i ∧ u (i - 1) = false then bump (freeUpto u i) else freeUpto u i ++ [⟨i, 1⟩]
theorem freeUpto_last {u : Nat → Bool} : ∀ {i : Nat}, 0 < i → u (i - 1) = false → ∃ (pre : List Run) (r : Run), freeUpto u i = pre ++ [r] ∧ 0 ≤ r.many ∧ r.many ≤ (i : Int)
  | i + 1, _, h => by
    simp only [Nat.add_sub_cancel] at h
    by_cases h1 : 0 < i ∧ u (i - 1) = false
    · obtain ⟨pre, r, e, hr⟩ := freeUpto_last h1.1 h1.2
      refine ⟨pre, ⟨r.first, r.many + 1⟩, ?_, by simp; omega⟩
      rw [freeUpto, if_neg (by simp [h]), if_pos h1, e, bump_last]
    · exact ⟨freeUpto u i, ⟨i, 1⟩, by rw [freeUpto, if_neg (by simp [h]), if_neg h1], by simp; omega⟩
theorem freeUpto_used {u : Nat → Bool} {i : Nat} (h : u i = true) : freeUpto u (i + 1) = freeUpto u i := by rw [freeUpto, if_pos h]
theorem freeUpto_new {u : Nat → Bool} {i : Nat} (h : u i = false) (h1 : ¬ (0 < i ∧ u (i - 1) = false)) : freeUpto u (i + 1) = freeUpto u i ++ [⟨i, 1⟩] := by rw [freeUpto, if_neg (by simp [h]), if_neg h1]
theorem freeUpto_more {u : Nat → Bool} {i : Nat} (h : u i = false) (h1 : 0 < i ∧ u (i - 1) = false) : freeUpto u (i + 1) = bump (freeUpto u i) := by rw [freeUpto, if_neg (by simp [h]), if_pos h1]
theorem freeUpto_gap {u : Nat → Bool} {a : Nat} (h0 : a = 0 ∨ u (a - 1) = true) : ∀ (n : Nat), (∀ i, a ≤ i → i < a + n → u i = false) → freeUpto u (a + n) = freeUpto u a ++ gapRun a ((a : Int) + n)
  | 0, _ => by simp [gapRun]
  | n + 1, h => by
    have ih := freeUpto_gap h0 n (fun i h1 h2 => h i h1 (by omega))
    have hu : u (a + n) = false := h _ (by omega) (by omega)
    rw [show a + (n + 1) = a + n + 1 by omega]
    by_cases hn : n = 0
    · subst hn
      have h1 : ¬ (0 < a + 0 ∧ u (a + 0 - 1) = false) := by
        rintro ⟨h1, h2⟩
        rcases h0 with h0 | h0
        · omega
        · simp only [Nat.add_zero] at h2; rw [h0] at h2; cases h2
      rw [freeUpto_new hu h1]
      simp [gapRun]
      rw [if_pos (by omega), show (a : Int) + 1 - a = 1 by omega]
    · have h1 : 0 < a + n ∧ u (a + n - 1) = false := ⟨by omega, h _ (by omega) (by omega)⟩
      rw [freeUpto_more hu h1, ih]
      unfold gapRun
      rw [if_pos (by omega), if_pos (by omega), bump_last]
      simp; omega
theorem freeUpto_full {u : Nat → Bool} {a : Nat} : ∀ (n : Nat), (∀ i, a ≤ i → i < a + n → u i = true) → freeUpto u (a + n) = freeUpto u a
  | 0, _ => rfl
  | n + 1, h => by
    rw [show a + (n + 1) = a + n + 1 by omega, freeUpto_used (h _ (by omega) (by omega))]
    exact freeUpto_full n fun i h1 h2 => h i h1 (by omega)
theorem freeUpto_runs (u : Nat → Bool) : ∀ (l : List Plc) (a : Nat), (∀ i, a ≤ i → u i = usedIn l i) → (a = 0 ∨ u (a - 1) = true) → Row16 a l → freeUpto u 16 = freeUpto u a ++ runsFrom a l
  | [], a, h, h0, hr => by
    have ha : (a : Int) ≤ 16 := hr
    have := freeUpto_gap h0 (16 - a) (fun i h1 h2 => (h i h1).trans rfl)
    rw [show a + (16 - a) = 16 by omega] at this
    rw [this, runsFrom]
    congr 2
    omega
  | x :: l, a, h, h0, hr => by
    have hle := hr.2.2.2.le
    obtain ⟨h1, h2, h3, h4⟩ := hr
    obtain ⟨b, hb⟩ : ∃ b : Nat, x.first = b := ⟨x.first.toNat, by omega⟩
    obtain ⟨c, hc⟩ : ∃ c : Nat, endOf x = c := ⟨(endOf x).toNat, by unfold endOf; omega⟩
    have hbc : b + manyOf x.m = c := by rw [← hc, ← hb]; rfl
    have hx : ∀ i : Nat, a ≤ i → u i = (decide (b ≤ i) && decide (i < c) || usedIn l i) := fun i hi => by
      rw [h i hi]; unfold usedIn; rw [List.any_cons, hb, hc]; simp
    have hbelow : ∀ i : Nat, i < c → usedIn l i = false := fun i hi => usedIn_below h4 (by omega)
    have g1 := freeUpto_gap h0 (b - a) (fun i hi1 hi2 => by rw [hx i hi1, hbelow i (by omega)]; simp; omega)
    rw [show a + (b - a) = b by omega] at g1
    have g2 := freeUpto_full (u := u) (a := b) (c - b) (fun i hi1 hi2 => by rw [hx i (by omega)]; simp; omega)
    rw [show b + (c - b) = c by omega] at g2
    have ih := freeUpto_runs u l c (fun i hi => by rw [hx i (by omega)]; simp; omega) (.inr (by rw [hx (c - 1) (by omega)]; simp; omega)) (by rw [← hc]; exact h4)
    rw [ih, g2, g1, runsFrom, hc, hb, List.append_assoc]
    congr 3
    omega
theorem freeUpto_runsOf {l : List Plc} (h : Row16 0 l) : freeUpto (usedIn l) 16 = runsOf l := by
  have := freeUpto_runs (usedIn l) l 0 (fun _ _ => rfl) (.inl rfl) h
  simpa [freeUpto, runsOf] using this



def Rise : Int → List Run → Prop
  | a, [] => a ≤ 17
  | a, r :: l => a ≤ r.first ∧ 1 ≤ r.many ∧ Rise (r.first + r.many + 1) l
theorem Rise.lower {l : List Run} {a b : Int} (h : Rise a l) (hb : b ≤ a) : Rise b l := by
  cases l with
  | nil => exact Int.le_trans hb h
  | cons x l => exact ⟨by have := h.1; omega, h.2⟩
theorem Rise.each : ∀ {l : List Run} {a : Int}, Rise a l → 0 ≤ a → ∀ j (h : j < l.length), 1 ≤ l[j].many ∧ a ≤ l[j].first ∧ l[j].first + l[j].many ≤ 16 ∧ (∀ i, (hi : i + 1 = j) → l[i].first + l[i].many < l[j].first)
  | r :: l, a, ⟨h1, h2, h3⟩, h0, 0, _ => by
    refine ⟨h2, h1, ?_, fun i hi => by omega⟩
    simp only [List.getElem_cons_zero]
    cases l with
    | nil => unfold Rise at h3; omega
    | cons y l =>
      have := Rise.each h3 (by omega) 0 (by simp)
      simp only [List.getElem_cons_zero] at this
      omega
  | r :: l, a, ⟨h1, h2, h3⟩, h0, j + 1, h => by
    have := Rise.each h3 (by omega) j (by simpa using h)
    simp only [List.getElem_cons_succ]
    refine ⟨this.1, by omega, this.2.2.1, fun i hi => ?_⟩
    cases i with
    | zero => obtain rfl : j = 0 := by omega
              simp only [List.getElem_cons_zero]; omega
    | succ i => simp only [List.getElem_cons_succ]; exact this.2.2.2 i (by omega)


def fitIn (many : Int) (l : List Run) : Int := match l.find? fun r => decide (many ≤ r.many) with
  | none => -1
  | some r => r.first
end Go.Proofs.YtjiedaialianmaaGreat
end

section

open Go
namespace Go.Proofs.YtjiedaialianmaaGreat
namespace Gr

section Walk
variable {N : Type} [DecidableEq N]

/-- one step in `all` -/
def Step (all : List N) (r : N → N → Bool) (x y : N) : Prop := y ∈ all ∧ r x y = true

/-- walker.walk from a, with fuel; m: who is met -/
def visit (all : List N) (r : N → N → Bool) : Nat → List N → N → List N
  | 0, m, _ => m
  | f + 1, m, a => all.foldl (fun m b => if b ∉ m ∧ r a b = true then visit all r f (b :: m) b else m) m

def unmet (all m : List N) : Nat := (all.filter (fun x => decide (x ∉ m))).length

theorem unmet_le {m m' : List N} (h : ∀ x, x ∈ m → x ∈ m') : ∀ (all : List N), unmet all m' ≤ unmet all m
  | [] => Nat.le_refl _
  | a :: l => by
    have ih := unmet_le h l
    unfold unmet at ih ⊢
    by_cases c : a ∈ m'
    · by_cases d : a ∈ m
      · simpa [List.filter_cons, c, d] using ih
      · simp only [List.filter_cons, c, d, not_true_eq_false, not_false_eq_true, decide_true, decide_false, if_true, Bool.false_eq_true, if_false, List.length_cons]
        omega
    · have d : a ∉ m := fun e => c (h a e)
      simp only [List.filter_cons, c, d, not_false_eq_true, decide_true, if_true, List.length_cons]
      omega

theorem unmet_lt {m : List N} {b : N} (hm : b ∉ m) : ∀ {all : List N}, b ∈ all → unmet all (b :: m) < unmet all m
  | a :: l, hb => by
    have le : unmet l (b :: m) ≤ unmet l m := unmet_le (fun x hx => List.mem_cons_of_mem _ hx) l
    by_cases e : a = b
    · subst e
      unfold unmet at le ⊢
      simp only [List.filter_cons, hm, List.mem_cons, true_or, not_true_eq_false, not_false_eq_true, decide_true, decide_false, if_true, Bool.false_eq_true, if_false, List.length_cons] at le ⊢
      omega
    · have hb' : b ∈ l := by
        rcases List.mem_cons.1 hb with h | h
        · exact absurd h.symm e
        · exact h
      have ih := unmet_lt hm hb'
      unfold unmet at ih ⊢
      by_cases c : a ∈ m
      · simpa [List.filter_cons, c, e] using ih
      · have c' : a ∉ b :: m := by simp [c, e]
        simp only [List.filter_cons, c, c', not_false_eq_true, decide_true, if_true, List.length_cons]
        omega

/-- what a walk from a leaves, that began with m and has looked at the ones of l -/
structure Met (all : List N) (r : N → N → Bool) (m : List N) (a : N) (l M : List N) : Prop where
  sub : ∀ x, x ∈ m → x ∈ M
  sound : ∀ x, x ∈ M → x ∈ m ∨ Relation.TransGen (Step all r) a x
  here : ∀ b, b ∈ l → r a b = true → b ∈ M
  closed : ∀ x, x ∈ M → x ∉ m → ∀ y, Step all r x y → y ∈ M

theorem fold_met {all : List N} {r : N → N → Bool} {f : Nat} {m : List N} {a : N}
    (ih : ∀ m b, unmet all m + 1 ≤ f → Met all r m b all (visit all r f m b)) (hf : unmet all m ≤ f) :
    ∀ (l p M : List N), (∀ x, x ∈ l → x ∈ all) → Met all r m a p M →
      Met all r m a (p ++ l) (l.foldl (fun m b => if b ∉ m ∧ r a b = true then visit all r f (b :: m) b else m) M)
  | [], p, M, _, h => by simpa using h
  | b :: l, p, M, hl, h => by
    have e : p ++ b :: l = (p ++ [b]) ++ l := by simp
    rw [e, List.foldl_cons]
    apply fold_met ih hf l (p ++ [b]) _ (fun x hx => hl x (List.mem_cons_of_mem _ hx))
    by_cases c : b ∉ M ∧ r a b = true
    · rw [if_pos c]
      have hb : b ∈ all := hl b List.mem_cons_self
      have lt := unmet_lt c.1 hb
      have le := unmet_le h.sub all
      have k := ih (b :: M) b (by omega)
      have ab : Relation.TransGen (Step all r) a b := .single ⟨hb, c.2⟩
      refine ⟨fun x hx => k.sub x (List.mem_cons_of_mem _ (h.sub x hx)), fun x hx => ?_, fun x hx hr => ?_, fun x hx hn y hy => ?_⟩
      · rcases k.sound x hx with q | q
        · rcases List.mem_cons.1 q with rfl | q
          · exact Or.inr ab
          · exact h.sound x q
        · exact Or.inr (Relation.TransGen.trans ab q)
      · rcases List.mem_append.1 hx with q | q
        · exact k.sub x (List.mem_cons_of_mem _ (h.here x q hr))
        · rw [List.mem_singleton.1 q]; exact k.sub b List.mem_cons_self
      · by_cases q : x ∈ M
        · exact k.sub y (List.mem_cons_of_mem _ (h.closed x q hn y hy))
        · by_cases e : x = b
          · subst e; exact k.here y hy.1 hy.2
          · exact k.closed x hx (by simp [q, e]) y hy
    · rw [if_neg c]
      refine ⟨h.sub, h.sound, fun x hx hr => ?_, h.closed⟩
      rcases List.mem_append.1 hx with q | q
      · exact h.here x q hr
      · rw [List.mem_singleton.1 q] at hr ⊢
        by_cases d : b ∈ M
        · exact d
        · exact absurd ⟨d, hr⟩ c

theorem visit_met (all : List N) (r : N → N → Bool) : ∀ (f : Nat) (m : List N) (a : N), unmet all m + 1 ≤ f → Met all r m a all (visit all r f m a)
  | 0, _, _, h => by omega
  | f + 1, m, a, h => by
    have k := fold_met (all := all) (r := r) (f := f) (m := m) (a := a) (fun m b hb => visit_met all r f m b hb) (by omega) all [] m (fun _ hx => hx)
      ⟨fun _ hx => hx, fun _ hx => Or.inl hx, fun _ hx => absurd hx (List.not_mem_nil), fun _ hx hn => absurd hx hn⟩
    simpa [visit] using k

/-- who is met by a walk from a that begins with none: just those that are come to -/
theorem visit_iff {all : List N} {r : N → N → Bool} {f : Nat} {a : N} (hf : all.length + 1 ≤ f) (x : N) :
    x ∈ visit all r f [] a ↔ Relation.TransGen (Step all r) a x := by
  have hu : unmet all [] ≤ all.length := List.length_filter_le _ _
  have k := visit_met all r f [] a (by omega)
  constructor
  · intro h
    rcases k.sound x h with q | q
    · exact absurd q List.not_mem_nil
    · exact q
  · intro h
    induction h with
    | single s => exact k.here _ s.1 s.2
    | tail _ s ih => exact k.closed _ ih List.not_mem_nil _ s

end Walk


/-- a way from i to k, between them only numbers below m -/
inductive Way (d : Nat → Nat → Bool) (m : Nat) : Nat → Nat → Prop
  | base {i k} : d i k = true → Way d m i k
  | thru {i j k} : j < m → Way d m i j → Way d m j k → Way d m i k

theorem Way.up {d : Nat → Nat → Bool} {m n i k : Nat} (h : m ≤ n) (w : Way d m i k) : Way d n i k := by
  induction w with
  | base e => exact .base e
  | thru hj _ _ a b => exact .thru (by omega) a b

theorem Way.zero {d : Nat → Nat → Bool} {i k : Nat} (w : Way d 0 i k) : d i k = true := by
  cases w with
  | base e => exact e
  | thru hj _ _ => omega

theorem Way.succ {d : Nat → Nat → Bool} {m i k : Nat} (w : Way d (m + 1) i k) : Way d m i k ∨ (Way d m i m ∧ Way d m m k) := by
  induction w with
  | base e => exact Or.inl (.base e)
  | @thru i j k hj _ _ a b =>
    by_cases e : j = m
    · subst e
      refine Or.inr ⟨?_, ?_⟩
      · rcases a with a | a
        · exact a
        · exact a.1
      · rcases b with b | b
        · exact b
        · exact b.2
    · have hj' : j < m := by omega
      rcases a with a | ⟨a, a'⟩ <;> rcases b with b | ⟨b, b'⟩
      · exact Or.inl (.thru hj' a b)
      · exact Or.inr ⟨.thru hj' a b, b'⟩
      · exact Or.inr ⟨a, .thru hj' a' b⟩
      · exact Or.inr ⟨a, b'⟩

/-- a table: row i, place k -/
abbrev Tab := List (List Bool)
def Tab.at (t : Tab) (i k : Nat) : Bool := (t.getD i []).getD k false
/-- the table's one deed -/
def Tab.fill (m i k : Nat) (t : Tab) : Tab := t.set i ((t.getD i []).set k (t.at i k || t.at i m && t.at m k))
def Tab.row (n m i : Nat) (t : Tab) : Tab := (List.range n).foldl (fun t k => Tab.fill m i k t) t
def Tab.phase (n m : Nat) (t : Tab) : Tab := (List.range n).foldl (fun t i => Tab.row n m i t) t
def Tab.all (n : Nat) (t : Tab) : Tab := (List.range n).foldl (fun t m => Tab.phase n m t) t

/-- n rows of n places -/
def Tab.sq (n : Nat) (t : Tab) : Prop := t.length = n ∧ ∀ l, l ∈ t → l.length = n

theorem Tab.sq_row {n : Nat} {t : Tab} (h : t.sq n) {i : Nat} (hi : i < n) : (t.getD i []).length = n := by
  have hi' : i < t.length := by rw [h.1]; exact hi
  rw [List.getD_eq_getElem?_getD, List.getElem?_eq_getElem hi', Option.getD_some]
  exact h.2 _ (List.getElem_mem hi')

theorem Tab.fill_sq {n : Nat} {t : Tab} (h : t.sq n) {m i k : Nat} (hi : i < n) : (Tab.fill m i k t).sq n := by
  refine ⟨by simp [Tab.fill, h.1], fun l hl => ?_⟩
  rcases List.mem_or_eq_of_mem_set hl with q | q
  · exact h.2 l q
  · rw [q, List.length_set]; exact Tab.sq_row h hi

theorem Tab.fill_at {n : Nat} {t : Tab} (h : t.sq n) {m i k : Nat} (hi : i < n) (hk : k < n) (a b : Nat) :
    (Tab.fill m i k t).at a b = if a = i ∧ b = k then (t.at i k || t.at i m && t.at m k) else t.at a b := by
  have hi' : i < t.length := by rw [h.1]; exact hi
  have hr := Tab.sq_row h hi
  by_cases ea : a = i
  · subst ea
    have e1 : (Tab.fill m a k t).getD a [] = (t.getD a []).set k (t.at a k || t.at a m && t.at m k) := by
      unfold Tab.fill
      simp [List.getD_eq_getElem?_getD, hi']
    by_cases eb : b = k
    · subst eb
      rw [if_pos ⟨rfl, rfl⟩]
      rw [Tab.at, e1]
      have hk' : b < (t.getD a []).length := by omega
      rw [List.getD_eq_getElem?_getD, List.getElem?_set_self hk', Option.getD_some]
    · rw [if_neg (fun h => eb h.2)]
      rw [Tab.at, e1, List.getD_eq_getElem?_getD, List.getElem?_set_ne (Ne.symm eb), ← List.getD_eq_getElem?_getD]; rfl
  · rw [if_neg (fun h => ea h.1)]
    have e1 : (Tab.fill m i k t).getD a [] = t.getD a [] := by
      unfold Tab.fill
      rw [List.getD_eq_getElem?_getD, List.getElem?_set_ne (Ne.symm ea), ← List.getD_eq_getElem?_getD]
    rw [Tab.at, e1]; rfl

/-- what a table tells when the deeds of phase m are done for the places p: nothing is lost, nothing is wrong, and what is done is there -/
structure Phase (d : Nat → Nat → Bool) (n m : Nat) (t t' : Tab) (p : Nat → Nat → Prop) : Prop where
  sq : t'.sq n
  up : ∀ i k, i < n → k < n → t.at i k = true → t'.at i k = true
  sound : ∀ i k, i < n → k < n → t'.at i k = true → Way d n i k
  new : ∀ i k, i < n → k < n → p i k → t.at i m = true → t.at m k = true → t'.at i k = true

theorem Phase.fill {d : Nat → Nat → Bool} {n m i k : Nat} {t t' : Tab} {p : Nat → Nat → Prop} (h : Phase d n m t t' p)
    (hm : m < n) (hi : i < n) (hk : k < n) : Phase d n m t (Tab.fill m i k t') (fun a b => p a b ∨ (a = i ∧ b = k)) := by
  refine ⟨Tab.fill_sq h.sq hi, fun a b ha hb hab => ?_, fun a b ha hb => ?_, fun a b ha hb hp h1 h2 => ?_⟩
  · rw [Tab.fill_at h.sq hi hk]
    split
    · rename_i e; rw [e.1, e.2] at hab
      rw [h.up i k hi hk hab]; rfl
    · exact h.up a b ha hb hab
  · rw [Tab.fill_at h.sq hi hk]
    split
    · rename_i e
      intro q
      simp only [Bool.or_eq_true, Bool.and_eq_true] at q
      rw [e.1, e.2]
      rcases q with q | q
      · exact h.sound i k hi hk q
      · exact .thru hm (h.sound i m hi hm q.1) (h.sound m k hm hk q.2)
    · exact h.sound a b ha hb
  · rw [Tab.fill_at h.sq hi hk]
    split
    · rename_i e
      rw [e.1] at h1; rw [e.2] at h2
      rw [h.up i m hi hm h1, h.up m k hm hk h2]; simp
    · rename_i e
      rcases hp with hp | hp
      · exact h.new a b ha hb hp h1 h2
      · exact absurd hp e

theorem Phase.mono {d : Nat → Nat → Bool} {n m : Nat} {t t' : Tab} {p q : Nat → Nat → Prop} (h : Phase d n m t t' p) (hq : ∀ a b, a < n → b < n → q a b → p a b) : Phase d n m t t' q :=
  ⟨h.sq, h.up, h.sound, fun i k hi hk hp => h.new i k hi hk (hq i k hi hk hp)⟩

theorem Phase.row {d : Nat → Nat → Bool} {n m i : Nat} {t : Tab} (hm : m < n) (hi : i < n) :
    ∀ (c : Nat) {t' : Tab} {p : Nat → Nat → Prop}, c ≤ n → Phase d n m t t' p →
      Phase d n m t ((List.range c).foldl (fun t k => Tab.fill m i k t) t') (fun a b => p a b ∨ (a = i ∧ b < c))
  | 0, _, _, _, h => by
    simp only [List.range_zero, List.foldl_nil]
    exact h.mono (fun a b _ _ q => q.elim id (fun q => absurd q.2 (Nat.not_lt_zero _)))
  | c + 1, t', p, hc, h => by
    rw [List.range_succ, List.foldl_append, List.foldl_cons, List.foldl_nil]
    exact ((Phase.row hm hi c (by omega) h).fill hm hi (by omega)).mono (fun a b _ _ q => by
      rcases q with q | ⟨q1, q2⟩
      · exact Or.inl (Or.inl q)
      · by_cases e : b = c
        · exact Or.inr ⟨q1, e⟩
        · exact Or.inl (Or.inr ⟨q1, by omega⟩))

theorem Phase.rows {d : Nat → Nat → Bool} {n m : Nat} {t : Tab} (hm : m < n) :
    ∀ (c : Nat) {t' : Tab} {p : Nat → Nat → Prop}, c ≤ n → Phase d n m t t' p →
      Phase d n m t ((List.range c).foldl (fun t i => Tab.row n m i t) t') (fun a b => p a b ∨ a < c)
  | 0, _, _, _, h => by
    simp only [List.range_zero, List.foldl_nil]
    exact h.mono (fun a b _ _ q => q.elim id (fun q => absurd q (Nat.not_lt_zero _)))
  | c + 1, t', p, hc, h => by
    rw [List.range_succ, List.foldl_append, List.foldl_cons, List.foldl_nil]
    exact (Phase.row hm (show c < n by omega) n (Nat.le_refl _) (Phase.rows hm c (by omega) h)).mono (fun a b _ hb q => by
      rcases q with q | q
      · exact Or.inl (Or.inl q)
      · by_cases e : a = c
        · exact Or.inr ⟨e, hb⟩
        · exact Or.inl (Or.inr (by omega)))

/-- the table tells all ways between numbers below m, and only ways -/
structure Tells (d : Nat → Nat → Bool) (n m : Nat) (t : Tab) : Prop where
  sq : t.sq n
  sound : ∀ i k, i < n → k < n → t.at i k = true → Way d n i k
  full : ∀ i k, i < n → k < n → Way d m i k → t.at i k = true

theorem Tells.phase {d : Nat → Nat → Bool} {n m : Nat} {t : Tab} (hm : m < n) (h : Tells d n m t) : Tells d n (m + 1) (Tab.phase n m t) := by
  have k : Phase d n m t (Tab.phase n m t) (fun a b => False ∨ a < n) :=
    Phase.rows hm n (Nat.le_refl _) ⟨h.sq, fun _ _ _ _ q => q, h.sound, fun _ _ _ _ q => q.elim⟩
  refine ⟨k.sq, k.sound, fun a b ha hb w => ?_⟩
  rcases w.succ with w | ⟨w, w'⟩
  · exact k.up a b ha hb (h.full a b ha hb w)
  · exact k.new a b ha hb (Or.inr ha) (h.full a m ha hm w) (h.full m b hm hb w')

theorem Tells.phases {d : Nat → Nat → Bool} {n : Nat} {t : Tab} (h : Tells d n 0 t) :
    ∀ (c : Nat), c ≤ n → Tells d n c ((List.range c).foldl (fun t m => Tab.phase n m t) t)
  | 0, _ => h
  | c + 1, hc => by
    rw [List.range_succ, List.foldl_append, List.foldl_cons, List.foldl_nil]
    exact (h.phases c (by omega)).phase (by omega)

/-- the first table -/
def Tab.mk (d : Nat → Nat → Bool) (n : Nat) : Tab := (List.range n).map (fun i => (List.range n).map (fun k => d i k))

theorem Tab.mk_sq (d : Nat → Nat → Bool) (n : Nat) : (Tab.mk d n).sq n := by
  refine ⟨by simp [Tab.mk], fun l hl => ?_⟩
  obtain ⟨i, _, e⟩ := List.mem_map.1 hl
  rw [← e]; simp

theorem Tab.mk_at (d : Nat → Nat → Bool) {n i k : Nat} (hi : i < n) (hk : k < n) : (Tab.mk d n).at i k = d i k := by
  simp [Tab.mk, Tab.at, List.getD_eq_getElem?_getD, hi, hk]

theorem Tab.begun (d : Nat → Nat → Bool) (n : Nat) : Tells d n 0 (Tab.mk d n) :=
  ⟨Tab.mk_sq d n, fun i k hi hk h => .base (by rwa [Tab.mk_at d hi hk] at h), fun i k hi hk w => by rw [Tab.mk_at d hi hk]; exact w.zero⟩

/-- the closed table tells just the ways -/
theorem Tab.all_at (d : Nat → Nat → Bool) {n i k : Nat} (hi : i < n) (hk : k < n) : (Tab.all n (Tab.mk d n)).at i k = true ↔ Way d n i k := by
  have h := (Tab.begun d n).phases n (Nat.le_refl _)
  exact ⟨h.sound i k hi hk, h.full i k hi hk⟩

end Gr
end Go.Proofs.YtjiedaialianmaaGreat
end

section

open Go
namespace Go.Proofs.YtjiedaialianmaaGreat
namespace Gs

abbrev Tx := List UInt8

theorem le_trans' {a b c : Tx} (h : a ≤ b) (k : b ≤ c) : a ≤ c := List.le_trans h k
theorem le_total' (a b : Tx) : a ≤ b ∨ b ≤ a := List.le_total a b
theorem le_anti {a b : Tx} (h : a ≤ b) (k : b ≤ a) : a = b := List.le_antisymm h k
theorem le_of_not {a b : Tx} (h : ¬ a < b) : b ≤ a := List.not_lt.1 h
theorem le_of_lt' {a b : Tx} (h : a < b) : a ≤ b := List.le_of_lt h

def sorted (l : List Tx) : Prop := l.Pairwise (fun a b => a ≤ b)
def msort (l : List Tx) : List Tx := l.mergeSort (fun x y => decide (x ≤ y))

theorem msort_perm (l : List Tx) : (msort l).Perm l := List.mergeSort_perm _ _
theorem msort_sorted (l : List Tx) : sorted (msort l) := by
  have h := List.pairwise_mergeSort (le := fun x y : Tx => decide (x ≤ y)) (fun a b c h k => by simp only [decide_eq_true_eq] at *; exact le_trans' h k) (fun a b => by simpa using le_total' a b) l
  exact h.imp (fun h => by simpa using h)

theorem msort_mem (l : List Tx) (x : Tx) : x ∈ msort l ↔ x ∈ l := (msort_perm l).mem_iff


/-- the deed itself: from place k back -/
def sink : Nat → List Tx → List Tx
  | 0, l => l
  | k + 1, l => if l.getD (k + 1) [] < l.getD k [] then sink k ((l.set (k + 1) (l.getD k [])).set k (l.getD (k + 1) [])) else l

/-- sink, told at a row whose first k are A -/
def back (x : Tx) : List Tx → List Tx  -- A turned round
  | [] => [x]
  | y :: l => if x < y then back x l ++ [y] else l.reverse ++ [y, x]

/-- sortTexts, c of its turns done -/
def turns (l : List Tx) (c : Nat) : List Tx := (List.range c).foldl (fun l i => sink (i + 1) l) l

end Gs
end Go.Proofs.YtjiedaialianmaaGreat
end

section

open Go
namespace Go.Proofs.YtjiedaialianmaaGreat
namespace Gs

/-- none of those that are left is needed by it -/
def free (r : Tx → Tx → Bool) (left : List Tx) (a : Tx) : Bool := left.all (fun b => !r a b)

/-- the code's order: the first free one of the left, again and again -/
def order (r : Tx → Tx → Bool) : Nat → List Tx → List Tx → Option (List Tx)
  | 0, _, out => some out
  | f + 1, left, out => if left.findIdx (free r left) < left.length then order r f (left.eraseIdx (left.findIdx (free r left))) (out ++ [left.getD (left.findIdx (free r left)) []]) else none

theorem first_some (p : Tx → Bool) : ∀ {l : List Tx} {a : Tx}, l.find? p = some a → l.findIdx p < l.length ∧ l.getD (l.findIdx p) [] = a ∧ l.eraseIdx (l.findIdx p) = l.erase a
  | x :: l, a, h => by
    by_cases c : p x = true
    · rw [List.find?_cons_of_pos c] at h
      have e : x = a := Option.some.inj h
      subst e
      rw [List.findIdx_cons, c]; simp
    · have c' : p x = false := by simpa using c
      rw [List.find?_cons_of_neg c] at h
      obtain ⟨h1, h2, h3⟩ := first_some p h
      have ne : x ≠ a := fun e => by subst e; exact c (List.find?_some h)
      rw [List.findIdx_cons, c']
      simp only [cond_false, List.length_cons]
      refine ⟨by omega, by simpa using h2, ?_⟩
      rw [List.eraseIdx_cons_succ, h3, List.erase_cons_tail (by simpa using ne)]

theorem first_none (p : Tx → Bool) {l : List Tx} (h : l.find? p = none) : ¬ l.findIdx p < l.length := by
  intro k
  have := List.findIdx_lt_length.1 k
  obtain ⟨x, hx, px⟩ := this
  exact absurd px (List.find?_eq_none.1 h x hx)

theorem order_some {r : Tx → Tx → Bool} {f : Nat} {left out : List Tx} {a : Tx} (h : left.find? (free r left) = some a) : order r (f + 1) left out = order r f (left.erase a) (out ++ [a]) := by
  obtain ⟨h1, h2, h3⟩ := first_some _ h
  rw [order, if_pos h1, h2, h3]
theorem order_none {r : Tx → Tx → Bool} {f : Nat} {left out : List Tx} (h : left.find? (free r left) = none) : order r (f + 1) left out = none := by
  rw [order, if_neg (first_none _ h)]


section Doc
variable (nm : Nat → Tx) (t : Nat → Nat → Bool) (n : Nat)

instance (b : Option Nat) (i : Nat) : Decidable (∀ j, b = some j → nm i < nm j) := by
  cases b with
  | none => exact isTrue (fun j h => by cases h)
  | some k => exact decidable_of_iff (nm i < nm k) ⟨fun h j e => by cases e; exact h, fun h => h k rfl⟩

def ready (done : List Bool) (i : Nat) : Bool := !done.getD i false && (List.range n).all (fun k => !t i k || done.getD k false)
def bestTo (done : List Bool) (c : Nat) : Option Nat := (List.range c).foldl (fun b i => if ready t n done i = true ∧ (∀ j, b = some j → nm i < nm j) then some i else b) none
def docOrder : Nat → List Bool → List Tx → List Tx
  | 0, _, out => out
  | f + 1, done, out => match bestTo nm t n done n with
    | some b => docOrder f (done.set b true) (out ++ [nm b])
    | none => out

end Doc

theorem perm_take {p q : Nat → Bool} {j : Nat} (hp : p j = true) (hq : q j = false) (he : ∀ i, i ≠ j → q i = p i) : ∀ {l : List Nat}, l.Nodup → j ∈ l → (l.filter p).Perm (j :: l.filter q)
  | x :: l, hn, hj => by
    have hn' := List.nodup_cons.1 hn
    by_cases e : x = j
    · subst e
      have same : l.filter q = l.filter p := List.filter_congr (fun i hi => he i (fun e => hn'.1 (e ▸ hi)))
      rw [List.filter_cons_of_pos hp, List.filter_cons_of_neg (by simp [hq]), same]
    · have hj' : j ∈ l := by
        rcases List.mem_cons.1 hj with h | h
        · exact absurd h.symm e
        · exact h
      have ih := perm_take hp hq he hn'.2 hj'
      by_cases c : p x = true
      · rw [List.filter_cons_of_pos c, List.filter_cons_of_pos (by rw [he x e]; exact c)]
        exact (ih.cons x).trans (List.Perm.swap j x _)
      · rw [List.filter_cons_of_neg c, List.filter_cons_of_neg (by rw [he x e]; exact c)]
        exact ih

/-- what the two orders share: d tells direct needs, t (and W) needs through others too -/
structure Net (nm : Nat → Tx) (r : Tx → Tx → Bool) (d t : Nat → Nat → Bool) (W : Nat → Nat → Prop) (n : Nat) : Prop where
  dir : ∀ i k, i < n → k < n → r (nm i) (nm k) = d i k
  one : ∀ i k, i < n → k < n → nm i = nm k → i = k
  tab : ∀ i k, i < n → k < n → (t i k = true ↔ W i k)
  base : ∀ i k, i < n → k < n → d i k = true → W i k
  trans : ∀ i j k, j < n → W i j → W j k → W i k
  first : ∀ i k, i < n → k < n → W i k → d i k = true ∨ ∃ j, j < n ∧ d i j = true ∧ W j k

structure Inv (nm : Nat → Tx) (W : Nat → Nat → Prop) (n : Nat) (done : List Bool) (left : List Tx) : Prop where
  dl : done.length = n
  perm : left.Perm (((List.range n).filter (fun i => !done.getD i false)).map nm)
  sort : sorted left
  closed : ∀ i k, i < n → k < n → done.getD i false = true → W i k → done.getD k false = true

section
variable {nm : Nat → Tx} {r : Tx → Tx → Bool} {d t : Nat → Nat → Bool} {W : Nat → Nat → Prop} {n : Nat}

theorem Inv.mem {done : List Bool} {left : List Tx} (h : Inv nm W n done left) (x : Tx) : x ∈ left ↔ ∃ i, i < n ∧ done.getD i false = false ∧ nm i = x := by
  rw [h.perm.mem_iff, List.mem_map]
  constructor
  · rintro ⟨i, hi, e⟩
    have hi' := List.mem_filter.1 hi
    exact ⟨i, List.mem_range.1 hi'.1, by simpa using hi'.2, e⟩
  · rintro ⟨i, hi, hd, e⟩
    exact ⟨i, List.mem_filter.2 ⟨List.mem_range.2 hi, by simp only [hd, Bool.not_false]⟩, e⟩

theorem ready_iff {done : List Bool} {i : Nat} : ready t n done i = true ↔ done.getD i false = false ∧ ∀ k, k < n → t i k = true → done.getD k false = true := by
  unfold ready
  simp only [Bool.and_eq_true, Bool.not_eq_true', List.all_eq_true, List.mem_range, Bool.or_eq_true]
  constructor
  · rintro ⟨a, b⟩
    exact ⟨a, fun k hk ht => by
      rcases b k hk with q | q
      · rw [ht] at q; exact absurd q (by simp)
      · exact q⟩
  · rintro ⟨a, b⟩
    refine ⟨a, fun k hk => ?_⟩
    cases q : t i k
    · exact Or.inl rfl
    · exact Or.inr (b k hk q)

/-- free among the left and ready by the table: one and the same -/
theorem free_ready (N : Net nm r d t W n) {done : List Bool} {left : List Tx} (h : Inv nm W n done left) {i : Nat} (hi : i < n) (hd : done.getD i false = false) :
    free r left (nm i) = true ↔ ready t n done i = true := by
  rw [ready_iff]
  unfold free
  simp only [List.all_eq_true, Bool.not_eq_true']
  constructor
  · intro q
    refine ⟨hd, fun k hk tk => ?_⟩
    have dn : ∀ j, j < n → d i j = true → done.getD j false = true := fun j hj dj => by
      cases c : done.getD j false
      · have := q (nm j) ((h.mem _).2 ⟨j, hj, c, rfl⟩)
        rw [N.dir i j hi hj, dj] at this; exact absurd this (by simp)
      · rfl
    rcases N.first i k hi hk ((N.tab i k hi hk).1 tk) with w | ⟨j, hj, dj, w⟩
    · exact dn k hk w
    · exact h.closed j k hj hk (dn j hj dj) w
  · rintro ⟨_, q⟩ x hx
    obtain ⟨k, hk, dk, e⟩ := (h.mem x).1 hx
    rw [← e, N.dir i k hi hk]
    cases c : d i k
    · rfl
    · have := q k hk ((N.tab i k hi hk).2 (N.base i k hi hk c))
      rw [dk] at this; exact absurd this (by simp)

theorem best_tells (done : List Bool) : ∀ (c : Nat), (bestTo nm t n done c = none → ∀ i, i < c → ready t n done i = false) ∧
    (∀ j, bestTo nm t n done c = some j → j < c ∧ ready t n done j = true ∧ ∀ i, i < c → ready t n done i = true → nm j ≤ nm i)
  | 0 => ⟨fun _ _ h => absurd h (Nat.not_lt_zero _), fun _ h => by simp [bestTo] at h⟩
  | c + 1 => by
    have ih := best_tells done c
    have e : bestTo nm t n done (c + 1) = if ready t n done c = true ∧ (∀ j, bestTo nm t n done c = some j → nm c < nm j) then some c else bestTo nm t n done c := by
      unfold bestTo; rw [List.range_succ, List.foldl_append, List.foldl_cons, List.foldl_nil]
    rw [e]
    split
    · rename_i q
      refine ⟨(fun h => absurd h (by simp)), fun j hj => ?_⟩
      cases hj
      refine ⟨by omega, q.1, fun i hi ri => ?_⟩
      by_cases ec : i = c
      · rw [ec]; exact List.le_refl _
      · have hi' : i < c := by omega
        cases b : bestTo nm t n done c with
        | none => exact absurd (ih.1 b i hi') (by simp [ri])
        | some j => exact le_trans' (le_of_lt' (q.2 j b)) ((ih.2 j b).2.2 i hi' ri)
    · rename_i q
      refine ⟨fun h i hi => ?_, fun j hj => ?_⟩
      · by_cases ec : i = c
        · subst ec
          cases rc : ready t n done i
          · rfl
          · exact absurd ⟨rc, fun j hj => by rw [h] at hj; cases hj⟩ q
        · exact ih.1 h i (by omega)
      · obtain ⟨h1, h2, h3⟩ := ih.2 j hj
        refine ⟨by omega, h2, fun i hi ri => ?_⟩
        by_cases ec : i = c
        · subst ec
          by_cases lt : nm i < nm j
          · exact absurd ⟨ri, fun j' hj' => by rw [hj] at hj'; cases hj'; exact lt⟩ q
          · exact le_of_not lt
        · exact h3 i (by omega) ri

/-- the first free one is the document's best -/
theorem find_best (N : Net nm r d t W n) {done : List Bool} {left : List Tx} (h : Inv nm W n done left) :
    left.find? (free r left) = (bestTo nm t n done n).map nm := by
  have b := best_tells (nm := nm) (t := t) (n := n) done n
  cases e : bestTo nm t n done n with
  | none =>
    rw [Option.map_none, List.find?_eq_none]
    intro x hx fx
    obtain ⟨i, hi, hd, ei⟩ := (h.mem x).1 hx
    rw [← ei] at fx
    have := (free_ready N h hi hd).1 fx
    rw [b.1 e i hi] at this; exact absurd this (by simp)
  | some j =>
    obtain ⟨hj, rj, lj⟩ := b.2 j e
    have dj := (ready_iff.1 rj).1
    have mj : nm j ∈ left := (h.mem _).2 ⟨j, hj, dj, rfl⟩
    have fj := (free_ready N h hj dj).2 rj
    rw [Option.map_some]
    cases fe : left.find? (free r left) with
    | none => exact absurd fj (List.find?_eq_none.1 fe _ mj)
    | some a =>
      obtain ⟨fa, as, bs, el, no⟩ := List.find?_eq_some_iff_append.1 fe
      have ma : a ∈ left := by rw [el]; simp
      obtain ⟨i, hi, di, ei⟩ := (h.mem a).1 ma
      have ri : ready t n done i = true := (free_ready N h hi di).1 (by rw [ei]; exact fa)
      have le1 : nm j ≤ a := by rw [← ei]; exact lj i hi ri
      have so := h.sort
      rw [sorted, el] at so
      have so' := List.pairwise_cons.1 (List.pairwise_append.1 so).2.1
      rw [el] at mj
      rcases List.mem_append.1 mj with q | q
      · exact absurd fj (by simpa using no _ q)
      · rcases List.mem_cons.1 q with q | q
        · rw [q]
        · rw [le_anti le1 (so'.1 _ q)]

theorem set_at {done : List Bool} {j i : Nat} (hj : j < done.length) : (done.set j true).getD i false = if i = j then true else done.getD i false := by
  by_cases e : i = j
  · subst e; rw [if_pos rfl, List.getD_eq_getElem?_getD, List.getElem?_set_self hj, Option.getD_some]
  · rw [if_neg e, List.getD_eq_getElem?_getD, List.getElem?_set_ne (Ne.symm e), ← List.getD_eq_getElem?_getD]

theorem Inv.step (N : Net nm r d t W n) {done : List Bool} {left : List Tx} (h : Inv nm W n done left) {j : Nat} (hj : j < n) (rj : ready t n done j = true) :
    Inv nm W n (done.set j true) (left.erase (nm j)) ∧ (left.erase (nm j)).length + 1 = left.length := by
  obtain ⟨dj, wj⟩ := ready_iff.1 rj
  have hl : j < done.length := by rw [h.dl]; exact hj
  have p := perm_take (p := fun i => !done.getD i false) (q := fun i => !(done.set j true).getD i false) (j := j) (by simp only [dj, Bool.not_false])
    (by simp only [set_at hl, if_true, Bool.not_true]) (fun i hi => by simp only [set_at hl, if_neg hi]) (l := List.range n) List.nodup_range (List.mem_range.2 hj)
  have p2 : left.Perm (nm j :: ((List.range n).filter (fun i => !(done.set j true).getD i false)).map nm) := by
    have := h.perm.trans (p.map nm); rwa [List.map_cons] at this
  have p3 := p2.erase (nm j)
  rw [List.erase_cons_head] at p3
  refine ⟨⟨by simp [h.dl], p3, h.sort.sublist List.erase_sublist, fun i k hi hk di w => ?_⟩, ?_⟩
  · rw [set_at hl] at di ⊢
    split
    · rfl
    · split at di
      · rename_i e; subst e
        exact wj k hk ((N.tab i k hi hk).2 w)
      · exact h.closed i k hi hk di w
  · have := p2.length_eq
    rw [p3.length_eq, this, List.length_cons]

/-- where none needs itself, one that is left is ready -/
theorem some_ready (N : Net nm r d t W n) (no : ∀ i, i < n → ¬ W i i) {done : List Bool} :
    ∀ (c i : Nat), i < n → done.getD i false = false → ((List.range n).filter (fun k => t i k)).length ≤ c → ∃ j, j < n ∧ ready t n done j = true
  | c, i, hi, hd, hc => by
    by_cases q : ready t n done i = true
    · exact ⟨i, hi, q⟩
    · have : ∃ k, k < n ∧ t i k = true ∧ done.getD k false = false := by
        apply Classical.byContradiction
        intro hno
        apply q
        rw [ready_iff]
        refine ⟨hd, fun k hk tk => ?_⟩
        cases e : done.getD k false
        · exact absurd ⟨k, hk, tk, e⟩ hno
        · rfl
      obtain ⟨k, hk, tk, dk⟩ := this
      have wk := (N.tab i k hi hk).1 tk
      have lt : ((List.range n).filter (fun x => t k x)).length < ((List.range n).filter (fun x => t i x)).length := by
        have sub : ∀ x, x ∈ List.range n → t k x = true → t i x = true := fun x hx tx =>
          have hx' := List.mem_range.1 hx
          (N.tab i x hi hx').2 (N.trans i k x hk wk ((N.tab k x hk hx').1 tx))
        have tkk : t k k = false := by
          cases e : t k k
          · rfl
          · exact absurd ((N.tab k k hk hk).1 e) (no k hk)
        have gen : ∀ (l : List Nat), (∀ x, x ∈ l → t k x = true → t i x = true) → ((l.filter (fun x => t k x)).length ≤ (l.filter (fun x => t i x)).length) ∧ (k ∈ l → (l.filter (fun x => t k x)).length < (l.filter (fun x => t i x)).length) := by
          intro l
          induction l with
          | nil => intro _; exact ⟨Nat.le_refl _, fun h => absurd h List.not_mem_nil⟩
          | cons x l ih =>
            intro hs
            have ih' := ih (fun y hy => hs y (List.mem_cons_of_mem _ hy))
            cases a : t k x <;> cases b : t i x <;> simp only [List.filter_cons, a, b, if_true, Bool.false_eq_true, if_false, List.length_cons]
            · refine ⟨ih'.1, fun hm => ?_⟩
              rcases List.mem_cons.1 hm with q | q
              · rw [← q, tk] at b; cases b
              · exact ih'.2 q
            · have h1 := ih'.1
              exact ⟨by omega, fun _ => by omega⟩
            · have := hs x List.mem_cons_self a
              rw [b] at this; cases this
            · refine ⟨by have := ih'.1; omega, fun hm => ?_⟩
              rcases List.mem_cons.1 hm with q | q
              · rw [← q, tkk] at a; cases a
              · have := ih'.2 q; omega
        exact (gen _ sub).2 (List.mem_range.2 hk)
      cases c with
      | zero => omega
      | succ c => exact some_ready N no c k hk dk (by omega)

/-- where none needs itself: the two orders are one -/
theorem order_doc (N : Net nm r d t W n) (no : ∀ i, i < n → ¬ W i i) : ∀ (f : Nat) (done : List Bool) (left out : List Tx), Inv nm W n done left → left.length = f →
    order r f left out = some (docOrder nm t n f done out)
  | 0, _, _, _, _, _ => rfl
  | f + 1, done, left, out, h, hl => by
    have b := best_tells (nm := nm) (t := t) (n := n) done n
    have fb := find_best N h
    cases e : bestTo nm t n done n with
    | none =>
      obtain ⟨x, hx⟩ : ∃ x, x ∈ left := by
        cases left with
        | nil => simp at hl
        | cons x l => exact ⟨x, List.mem_cons_self⟩
      obtain ⟨i, hi, hd, _⟩ := (h.mem x).1 hx
      obtain ⟨j, hj, rj⟩ := some_ready N no _ i hi hd (Nat.le_refl _)
      rw [b.1 e j hj] at rj; cases rj
    | some j =>
      obtain ⟨hj, rj, _⟩ := b.2 j e
      rw [e, Option.map_some] at fb
      obtain ⟨h', l'⟩ := h.step N hj rj
      rw [order_some fb, docOrder, e]
      exact order_doc N no f _ _ _ h' (by omega)

/-- where one needs itself there is no order -/
theorem order_round (N : Net nm r d t W n) {i : Nat} (hi : i < n) (w : W i i) : ∀ (f : Nat) (done : List Bool) (left out : List Tx), Inv nm W n done left → left.length = f →
    done.getD i false = false → order r f left out = none
  | 0, done, left, _, h, hl, hd => by
    have m : nm i ∈ left := (h.mem _).2 ⟨i, hi, hd, rfl⟩
    have : left = [] := List.eq_nil_of_length_eq_zero hl
    rw [this] at m; exact absurd m List.not_mem_nil
  | f + 1, done, left, out, h, hl, hd => by
    have b := best_tells (nm := nm) (t := t) (n := n) done n
    have fb := find_best N h
    cases e : bestTo nm t n done n with
    | none => rw [e] at fb; exact order_none fb
    | some j =>
      obtain ⟨hj, rj, _⟩ := b.2 j e
      rw [e, Option.map_some] at fb
      obtain ⟨h', l'⟩ := h.step N hj rj
      rw [order_some fb]
      refine order_round N hi w f _ _ _ h' (by omega) ?_
      rw [set_at (by rw [h.dl]; exact hj)]
      split
      · rename_i q; subst q
        have := (ready_iff.1 rj).2 i hi ((N.tab i i hi hi).2 w)
        rw [hd] at this; cases this
      · exact hd

theorem Inv.begun : Inv nm W n (List.replicate n false) (msort ((List.range n).map nm)) := by
  have e : ∀ i, (List.replicate n false).getD i false = false := fun i => by
    rw [List.getD_eq_getElem?_getD, List.getElem?_replicate]; split <;> rfl
  refine ⟨by simp, ?_, msort_sorted _, fun i k hi hk q _ => by rw [e i] at q; cases q⟩
  have : (List.range n).filter (fun i => !(List.replicate n false).getD i false) = List.range n := List.filter_eq_self.2 (fun i _ => by simp only [e i, Bool.not_false])
  rw [this]; exact msort_perm _
end

end Gs
end Go.Proofs.YtjiedaialianmaaGreat
end

section

open Go
namespace Go.Proofs.YtjiedaialianmaaGreat
namespace Gs


section Needs
variable {N : Type}

theorem turned {all : List N} {r : N → N → Bool} {a b : N} (ha : a ∈ all) (h : Relation.TransGen (Gr.Step all r) a b) : Relation.TransGen (Gr.Step all (fun x y => r y x)) b a := by
  have key : b ∈ all ∧ Relation.TransGen (Gr.Step all (fun x y => r y x)) b a := by
    induction h with
    | single s => exact ⟨s.1, .single ⟨ha, s.2⟩⟩
    | tail _ s ih => exact ⟨s.1, Relation.TransGen.trans (.single ⟨ih.1, s.2⟩) ih.2⟩
  exact key.2

end Needs

def but (x : Tx) (l : List Tx) : List Tx := l.filter (fun a => decide (a ≠ x))

end Gs
end Go.Proofs.YtjiedaialianmaaGreat
end

section

open Go
namespace Go.Proofs.YtjiedaialianmaaGreat
namespace Gs

theorem way_first {d : Nat → Nat → Bool} {n i k : Nat} (w : Gr.Way d n i k) : d i k = true ∨ ∃ j, j < n ∧ d i j = true ∧ Gr.Way d n j k := by
  induction w with
  | base e => exact Or.inl e
  | @thru i j k hj _ b ih _ =>
    rcases ih with q | ⟨j', hj', q, w⟩
    · exact Or.inr ⟨j, hj, q, b⟩
    · exact Or.inr ⟨j', hj', q, .thru hj w b⟩

/-- the document's table and the direct needs make a net -/
theorem net_of {nm : Nat → Tx} {r : Tx → Tx → Bool} {d : Nat → Nat → Bool} {n : Nat} (dir : ∀ i k, i < n → k < n → r (nm i) (nm k) = d i k)
    (one : ∀ i k, i < n → k < n → nm i = nm k → i = k) : Net nm r d (Gr.Tab.all n (Gr.Tab.mk d n)).at (Gr.Way d n) n where
  dir := dir
  one := one
  tab := fun _ _ hi hk => Gr.Tab.all_at d hi hk
  base := fun _ _ _ _ e => .base e
  trans := fun _ _ _ hj a b => .thru hj a b
  first := fun _ _ _ _ w => way_first w

def names (nm : Nat → Tx) (n : Nat) : List Tx := (List.range n).map nm

theorem step_perm {N : Type} {a b : List N} {r : N → N → Bool} (h : ∀ x, x ∈ a ↔ x ∈ b) (x y : N) :
    Relation.TransGen (Gr.Step a r) x y ↔ Relation.TransGen (Gr.Step b r) x y := by
  have e : Gr.Step a r = Gr.Step b r := by funext x y; unfold Gr.Step; rw [h y]
  rw [e]

end Gs
end Go.Proofs.YtjiedaialianmaaGreat
end

section

open Go
namespace Go.Proofs.YtjiedaialianmaaGreat
namespace Gs

theorem keeps_iff {l : List Tx} {j : Nat} (hj : j + 1 < l.length) : Lib.keeps l.toArray (j + 1) = true ↔ l[j + 1] ≠ l[j] := by
  have h1 : l.toArray[j + 1]! = l[j + 1] := by simp [hj]
  have h0 : l.toArray[j + 1 - 1]! = l[j] := by simp [show j < l.length by omega]
  unfold Lib.keeps
  rw [h1, h0, decide_eq_true_eq]
  exact ⟨fun h => h.resolve_left (by omega), Or.inr⟩

/-- a row in order has two of one name just if Compact takes one away -/
theorem compact_lt {l : List Tx} (h : sorted l) : (Lib.compact l).length < l.length ↔ ¬ l.Nodup := by
  constructor
  · intro lt hn
    have all : ∀ j, j < l.length → Lib.keeps l.toArray j = true := by
      intro j hj
      cases j with
      | zero => simp [Lib.keeps]
      | succ j =>
        rw [keeps_iff hj]
        exact fun e => List.pairwise_iff_getElem.1 hn j (j + 1) (by omega) hj (by omega) e.symm
    rw [Lib.compact_all l all] at lt
    exact absurd lt (Nat.lt_irrefl _)
  · intro hn
    apply Classical.byContradiction
    intro lt
    apply hn
    have all : ∀ j, j < l.length → Lib.keeps l.toArray j = true := by
      intro j hj
      apply Classical.byContradiction
      intro no
      apply lt
      unfold Lib.compact Lib.compactUpTo
      rw [List.length_map]
      have := List.length_filter_lt_length_iff_exists.2 ⟨j, List.mem_range.2 hj, no⟩
      rwa [List.length_range] at this
    refine List.pairwise_iff_getElem.2 (fun i j hi hj hij e => ?_)
    cases j with
    | zero => omega
    | succ j =>
      have so := List.pairwise_iff_getElem.1 h
      have ne := (keeps_iff hj).1 (all (j + 1) hj)
      have le1 : l[j] ≤ l[j + 1] := so j (j + 1) (by omega) hj (by omega)
      by_cases q : i = j
      · subst q; exact ne e.symm
      · have le2 : l[i] ≤ l[j] := so i j hi (by omega) (by omega)
        rw [e] at le2
        exact ne (le_anti le2 le1)

end Gs
end Go.Proofs.YtjiedaialianmaaGreat
end

section

open Go
namespace Go.Proofs.YtjiedaialianmaaGreat
open Gs (Tx)

abbrev tx (s : ByteArray) : Tx := s.data.toList
theorem tx_inj {a b : ByteArray} (h : tx a = tx b) : a = b := by
  cases a; cases b; congr 1; exact Array.toList_inj.1 h
theorem tx_mk (l : Tx) : tx ⟨l.toArray⟩ = l := by simp [tx]
theorem mk_tx (s : ByteArray) : (⟨(tx s).toArray⟩ : ByteArray) = s := by cases s; simp [tx]
/-- names of some, as they stand -/
def txs (l : List Plc) : List Tx := l.map fun x => tx x.m.name
/-- does it ask one of that name? -/
def asks (m : Mod) (b : Tx) : Bool := m.im.any fun i => decide (tx i.mod = b)
def isAt (a : Tx) (x : Plc) : Bool := decide (tx x.m.name = a)
theorem isAt_named (s : ByteArray) : isAt (tx s) = named s := by
  funext x; unfold isAt named
  by_cases h : x.m.name = s
  · simp [h]
  · have : tx x.m.name ≠ tx s := fun e => h (tx_inj e)
    simp [h, this]
/-- does one need another one by itself? told by names -/
def dirT (l : List Plc) (a b : Tx) : Bool := match l.find? (isAt a) with
  | some x => asks x.m b
  | none => false
/-- the same, told by places -/
def dirN (l : List Plc) (i k : Nat) : Bool := match l[i]? with
  | some x => asks x.m ((txs l).getD k [])
  | none => false
def nmN (l : List Plc) (i : Nat) : Tx := (txs l).getD i []

theorem txs_length (l : List Plc) : (txs l).length = l.length := by simp [txs]
theorem txs_at {l : List Plc} {i : Nat} (h : i < l.length) : (txs l)[i]'(by rw [txs_length]; exact h) = tx l[i].m.name := by simp [txs]
theorem nmN_at {l : List Plc} {i : Nat} (h : i < l.length) : nmN l i = tx l[i].m.name := by
  unfold nmN; rw [List.getD_eq_getElem?_getD, List.getElem?_eq_getElem (by rw [txs_length]; exact h), Option.getD_some, txs_at h]
theorem names_txs (l : List Plc) : Gs.names (nmN l) l.length = txs l := by
  unfold Gs.names
  apply List.ext_getElem
  · simp [txs]
  · intro i h1 h2
    rw [List.getElem_map, List.getElem_range, nmN_at (by rwa [txs_length] at h2), txs_at (by rwa [txs_length] at h2)]

theorem nodup_one {l : List Plc} (hn : (txs l).Nodup) : ∀ i k, i < l.length → k < l.length → nmN l i = nmN l k → i = k := by
  intro i k hi hk e
  rw [nmN_at hi, nmN_at hk, ← txs_at hi, ← txs_at hk] at e
  have h1 : i < (txs l).length := by rw [txs_length]; exact hi
  have h2 : k < (txs l).length := by rw [txs_length]; exact hk
  rcases Nat.lt_trichotomy i k with h | h | h
  · exact absurd e (List.pairwise_iff_getElem.1 hn i k h1 h2 h)
  · exact h
  · exact absurd e.symm (List.pairwise_iff_getElem.1 hn k i h2 h1 h)
theorem find_nodup {l : List Plc} (hn : (txs l).Nodup) {i : Nat} (hi : i < l.length) : l.find? (isAt (nmN l i)) = some l[i] := by
  rw [List.find?_eq_some_iff_getElem]
  refine ⟨by simp [isAt, nmN_at hi], i, hi, rfl, fun j hj => ?_⟩
  have : tx (l[j]'(by omega)).m.name ≠ nmN l i := fun e => by
    have := nodup_one hn j i (by omega) hi (by rw [nmN_at (show j < l.length by omega)]; exact e)
    omega
  simp [isAt, this]
theorem dir_of {l : List Plc} (hn : (txs l).Nodup) : ∀ i k, i < l.length → k < l.length → dirT l (nmN l i) (nmN l k) = dirN l i k := by
  intro i k hi _
  unfold dirT dirN
  rw [find_nodup hn hi, List.getElem?_eq_getElem hi]; rfl

/-- have two one name? -/
def isTwice (l : List Plc) : Bool := decide ((Lib.compact (Gs.msort (txs l))).length < l.length)
theorem twice_nodup (l : List Plc) : isTwice l = true ↔ ¬ (txs l).Nodup := by
  unfold isTwice
  rw [decide_eq_true_eq]
  have h := Gs.compact_lt (Gs.msort_sorted (txs l))
  rw [(Gs.msort_perm (txs l)).nodup_iff, (Gs.msort_perm (txs l)).length_eq, txs_length] at h
  exact h
theorem not_twice {l : List Plc} (h : isTwice l = false) : (txs l).Nodup :=
  Classical.byContradiction fun hn => by rw [(twice_nodup l).2 hn] at h; cases h

def anyQ (_ : Plc) : Bool := true
/-- what is wrong with some modules -/
def grErr (l : List Plc) : Int := if modsAll anyQ l ≠ 0 then modsAll anyQ l else if isTwice l = true then 6 else 0
theorem grErr_ok {l : List Plc} (h : grErr l = 0) : l.length ≤ 8 ∧ (∀ x ∈ l, modErr x.m = 0) ∧ (txs l).Nodup := by
  unfold grErr at h
  split at h
  · contradiction
  · rename_i h1
    split at h
    · cases h
    · rename_i h2
      obtain ⟨a, b⟩ := modsAll_ok (by omega : modsAll anyQ l = 0)
      exact ⟨a, fun x hx => (b x hx).1, not_twice (by simpa using h2)⟩
/-- .. of which one must be there -/
def ofErr (l : List Plc) (nm : ByteArray) : Int := if grErr l ≠ 0 then grErr l else if idxOf (named nm) l < 0 then 5 else 0
/-- names that are come to from one, rising -/
def reachT (l : List Plc) (r : Tx → Tx → Bool) (a : Tx) : List Tx := (Gs.msort (txs l)).filter (fun x => decide (x ∈ Gr.visit (Gs.msort (txs l)) r (l.length + 1) [] a))
def usersT (l : List Plc) (nm : ByteArray) : List Tx := if ofErr l nm ≠ 0 then [] else reachT l (fun a b => dirT l b a) (tx nm)
/-- all names, each behind all that it needs; none: there is a round -/
def sortedT (l : List Plc) : Option (List Tx) := Gs.order (dirT l) l.length (Gs.msort (txs l)) []
/-- the document's table -/
def tabOf (l : List Plc) : Gr.Tab := Gr.Tab.all l.length (Gr.Tab.mk (dirN l) l.length)
/-- does one need itself, by the document's table? -/
def isRound (l : List Plc) : Bool := (List.range l.length).any fun i => (tabOf l).at i i
/-- the document's order -/
def orderD (l : List Plc) : List Tx := Gs.docOrder (nmN l) (tabOf l).at l.length l.length (List.replicate l.length false) []
theorem sorted_doc {l : List Plc} (h : grErr l = 0) : sortedT l = if isRound l = true then none else some (orderD l) := by
  obtain ⟨_, _, hn⟩ := grErr_ok h
  have N := Gs.net_of (n := l.length) (dir_of hn) (nodup_one hn)
  have hi : Gs.Inv (nmN l) (Gr.Way (dirN l) l.length) l.length (List.replicate l.length false) (Gs.msort (txs l)) := by
    rw [← names_txs]; exact Gs.Inv.begun
  have hl : (Gs.msort (txs l)).length = l.length := by rw [(Gs.msort_perm _).length_eq, txs_length]
  unfold sortedT
  by_cases hr : isRound l = true
  · rw [if_pos hr]
    obtain ⟨i, hi', hw⟩ := List.any_eq_true.1 hr
    have hi' := List.mem_range.1 hi'
    exact Gs.order_round N hi' ((N.tab i i hi' hi').1 hw) _ _ _ _ hi hl (by
      rw [List.getD_eq_getElem?_getD, List.getElem?_replicate]; split <;> rfl)
  · rw [if_neg hr]
    exact Gs.order_doc N (fun i hi' hw => hr (List.any_eq_true.2 ⟨i, List.mem_range.2 hi', (N.tab i i hi' hi').2 hw⟩)) _ _ _ _ hi hl

end Go.Proofs.YtjiedaialianmaaGreat
end
