/- Plain Lean: numbers in bytes (chapter A): what word.Get, Put, Signed and the document's answer compute, and plain laws about them. No program in sight. -/
namespace Go.Proofs.Ytjnfemcfohflnaa

/-! ### chapter A: numbers in bytes -/
/-- what is wrong with so many bytes of a text of z bytes from a place on -/
def checkWord (z at_ b : Int) : Int := if b < 1 ∨ 4 < b then 7 else if at_ < 0 ∨ z < at_ ∨ z - at_ < b then 3 else 0

/-- a number that is told by so many bits, as one that may be below 0: the number and the error -/
def signedNum (n b : Int) : Int := if b < 1 ∨ 32 < b then 0 else if n < 0 ∨ 2 ^ b.toNat ≤ n then 0 else if 2 ^ b.toNat ≤ 2 * n then n - 2 ^ b.toNat else n
def signedErr (n b : Int) : Int := if b < 1 ∨ 32 < b then 7 else if n < 0 ∨ 2 ^ b.toNat ≤ n then 3 else 0

theorem pow2_facts (k : Nat) (h1 : 1 ≤ k) (h : k ≤ 32) : (2 : Int) ≤ 2 ^ k ∧ (2 : Int) ^ k ≤ 4294967296 ∧ (2 : Int) ^ k % 2 = 0 := by
  have : ∀ k : Fin 33, 1 ≤ k.val → (2 : Int) ≤ 2 ^ k.val ∧ (2 : Int) ^ k.val ≤ 4294967296 ∧ (2 : Int) ^ k.val % 2 = 0 := by decide
  exact this ⟨k, by omega⟩ h1

theorem checkWord_ok {z a b : Int} (h : checkWord z a b = 0) : 1 ≤ b ∧ b ≤ 4 ∧ 0 ≤ a ∧ a ≤ z ∧ b ≤ z - a := by
  unfold checkWord at h
  split at h
  · omega
  · split at h <;> omega

theorem checkWord_of {z a b : Int} (h1 : 1 ≤ b) (h2 : b ≤ 4) (h3 : 0 ≤ a) (h4 : b ≤ z - a) : checkWord z a b = 0 := by
  unfold checkWord; rw [if_neg (by omega), if_neg (by omega)]

theorem checkWord_cases (z a b : Int) : checkWord z a b = 0 ∨ checkWord z a b = 3 ∨ checkWord z a b = 7 := by
  unfold checkWord; (repeat' split) <;> simp

/-- the digits of a number to the base 256, the least first -/
def digits (n : Int) : Nat → List UInt8
  | 0 => []
  | k + 1 => UInt8.ofNat (n % 256).toNat :: digits (n / 256) k

/-- the number of some digits -/
def num : List UInt8 → Int
  | [] => 0
  | b :: l => (b.toNat : Int) + 256 * num l

theorem digits_length (n : Int) (k : Nat) : (digits n k).length = k := by
  induction k generalizing n with
  | zero => rfl
  | succ k ih => simp [digits, ih]

theorem num_nonneg (l : List UInt8) : 0 ≤ num l := by
  induction l with
  | nil => simp [num]
  | cons b l ih => simp only [num]; omega

def p256 : Nat → Int
  | 0 => 1
  | k + 1 => 256 * p256 k

theorem p256_pos (k : Nat) : 1 ≤ p256 k := by
  induction k with
  | zero => simp [p256]
  | succ k ih => simp only [p256]; omega

theorem p256_pow (k : Nat) : p256 k = 2 ^ (8 * k) := by
  induction k with
  | zero => rfl
  | succ k ih => rw [p256, ih, Nat.mul_succ, Int.pow_add]; omega

theorem p256_le (k : Nat) (h : k ≤ 4) : p256 k ≤ 4294967296 := by
  have : ∀ q : Fin 5, p256 q.val ≤ 4294967296 := by decide
  exact this ⟨k, by omega⟩

theorem num_snoc (l : List UInt8) (c : UInt8) : num (l ++ [c]) = num l + (c.toNat : Int) * p256 l.length := by
  induction l with
  | nil => simp [num, p256]
  | cons b l ih =>
    simp only [List.cons_append, num, ih, p256, List.length_cons, Int.mul_add]
    rw [show (c.toNat : Int) * (256 * p256 l.length) = 256 * ((c.toNat : Int) * p256 l.length) from by rw [← Int.mul_assoc, Int.mul_comm (c.toNat : Int) 256, Int.mul_assoc]]
    omega

theorem num_lt (l : List UInt8) : num l < p256 l.length := by
  induction l with
  | nil => simp [num, p256]
  | cons b l ih =>
    have := b.toNat_lt
    simp only [num, p256, List.length_cons]; omega

theorem ofNat_mod (n : Int) : ((UInt8.ofNat (n % 256).toNat).toNat : Int) = n % 256 := by
  simp only [UInt8.toNat_ofNat']
  have : (n % 256).toNat < 256 := by omega
  omega

theorem num_digits (n : Int) (k : Nat) : num (digits n k) = n % p256 k := by
  induction k generalizing n with
  | zero => simp [num, digits, p256, Int.emod_one]
  | succ k ih =>
    simp only [digits, num, ih, ofNat_mod, p256]
    generalize hP : p256 k = P
    have hp : 1 ≤ P := hP ▸ p256_pos k
    have e1 : n = 256 * (n / 256) + n % 256 := by omega
    have e2 : n / 256 = P * (n / 256 / P) + n / 256 % P := (Int.mul_ediv_add_emod _ _).symm
    have h0 := Int.emod_nonneg (n / 256) (show P ≠ 0 by omega)
    have h1 := Int.emod_lt_of_pos (n / 256) (show 0 < P by omega)
    have h2 : n = (n % 256 + 256 * (n / 256 % P)) + (256 * P) * (n / 256 / P) := by
      conv => lhs; rw [e1, e2]
      rw [Int.mul_add, Int.mul_assoc]; omega
    conv => rhs; rw [h2]
    rw [Int.add_mul_emod_self_left]
    refine (Int.emod_eq_of_lt (by omega) ?_).symm
    omega

theorem digits_num (l : List UInt8) : digits (num l) l.length = l := by
  induction l with
  | nil => rfl
  | cons b l ih =>
    have hb := b.toNat_lt
    simp only [num, List.length_cons, digits]
    have e1 : ((b.toNat : Int) + 256 * num l) % 256 = b.toNat := by omega
    have e2 : ((b.toNat : Int) + 256 * num l) / 256 = num l := by omega
    rw [e1, e2, ih]
    simp

theorem digits_mod (n : Int) (k : Nat) : digits (n % p256 k) k = digits n k := by
  have h := digits_num (digits n k)
  rw [num_digits, digits_length] at h
  exact h

theorem digits_snoc (n : Int) (k : Nat) : digits n (k + 1) = digits n k ++ [UInt8.ofNat (n / p256 k % 256).toNat] := by
  induction k generalizing n with
  | zero => simp [digits, p256]
  | succ k ih =>
    have e : n / 256 / p256 k = n / p256 (k + 1) := by rw [p256, Int.ediv_ediv_of_nonneg (by omega)]
    rw [digits, ih, digits, e]; rfl

theorem p256_step (n : Int) (k : Nat) : n / p256 k / 256 = n / p256 (k + 1) := by
  have := p256_pos k
  rw [p256, Int.mul_comm, Int.ediv_ediv_of_nonneg (by omega)]

theorem tdiv2 (x : Int) : x.tdiv 2 = if 0 ≤ x then x / 2 else -((-x) / 2) := by
  split
  · exact Int.tdiv_eq_ediv_of_nonneg (by assumption)
  · rw [show x.tdiv 2 = -((-x).tdiv 2) from by rw [Int.neg_tdiv, Int.neg_neg], Int.tdiv_eq_ediv_of_nonneg (by omega)]
theorem tmod2 (x : Int) : x.tmod 2 = if 0 ≤ x then x % 2 else -((-x) % 2) := by
  split
  · exact Int.tmod_eq_emod_of_nonneg (by assumption)
  · rw [show x.tmod 2 = -((-x).tmod 2) from by rw [Int.neg_tmod, Int.neg_neg], Int.tmod_eq_emod_of_nonneg (by omega)]

/-! ### chapter C: patches -/
/-- how many bytes a kind of patches has; 0: there is none -/
def widthOf (k : Int) : Int := if k = 1 ∨ k = 2 then 4 else if k = 3 ∨ k = 4 then 2 else if k = 5 then 3 else 0

theorem widthOf_cases (k : Int) : (k = 1 ∧ widthOf k = 4) ∨ (k = 2 ∧ widthOf k = 4) ∨ (k = 3 ∧ widthOf k = 2) ∨ (k = 4 ∧ widthOf k = 2) ∨ (k = 5 ∧ widthOf k = 3) ∨ ((k < 1 ∨ 5 < k) ∧ widthOf k = 0) := by
  unfold widthOf; (repeat' split) <;> omega

/-- what is wrong with a patch's value -/
def valueErr (kind sym add place : Int) : Int :=
  if widthOf kind = 0 then 7 else if sym < 0 ∨ 65535 < sym ∨ place < 0 ∨ 65535 < place ∨ add < 0 ∨ 65535 < add then 3
  else if kind = 5 ∧ (sym + add - place) % 2 = 1 then 4 else 0

/-- what stands there then, before it is cut to its bytes -/
def valueRaw (kind sym add place : Int) : Int :=
  if kind = 2 then sym + add - place else if kind = 3 then (sym + add) / 65536 else if kind = 5 then (sym + add - place) / 2 else sym + add

def valueNum (kind sym add place : Int) : Int :=
  if valueErr kind sym add place = 0 then valueRaw kind sym add place % p256 (widthOf kind).toNat else 0

/-- what is wrong with a patch of a text of z bytes -/
def applyErr (z kind at_ add sym base : Int) : Int :=
  if widthOf kind = 0 then 7 else if add < 0 ∨ 65535 < add ∨ at_ < 0 ∨ z - widthOf kind < at_ ∨ base < 0 ∨ 65279 < base then 3 else valueErr kind sym add (base + at_)

end Go.Proofs.Ytjnfemcfohflnaa
