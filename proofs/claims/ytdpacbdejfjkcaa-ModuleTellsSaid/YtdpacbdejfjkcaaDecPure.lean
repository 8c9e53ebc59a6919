import Derived.Test.YtdpacbdejfjkcaaEncPure
/- Plain Lean: a module out of its bytes (chapter B). What is left of the bytes is a list; none: there were not enough. No program in sight. -/
open Go
namespace Go.Proofs.Ytdpacbdejfjkcaa

abbrev Rest := Option (List UInt8)
def txt (n : Nat) : Rest → List UInt8 × Rest
  | none => ([], none)
  | some s => if s.length < n then ([], none) else (s.take n, some (s.drop n))
def numb (k : Nat) (st : Rest) : Int × Rest := (num (txt k st).1, (txt k st).2)
def nam (st : Rest) : List UInt8 × Rest := txt (numb 1 st).1.toNat (numb 1 st).2
def left : Rest → List UInt8
  | none => []
  | some s => s
/-- something as often as it is asked, as long as there is enough -/
def reps {α : Type} (f : Rest → α × Rest) : Nat → Rest → List α × Rest
  | 0, st => ([], st)
  | _ + 1, none => ([], none)
  | n + 1, some s => ((f (some s)).1 :: (reps f n (f (some s)).2).1, (reps f n (f (some s)).2).2)
abbrev sof (l : List UInt8) : ByteArray := ⟨l.toArray⟩
def decExp (st : Rest) : Exp × Rest := (⟨sof (nam st).1, (numb 2 (nam st).2).1⟩, (numb 2 (nam st).2).2)
def decImp (st : Rest) : Imp × Rest :=
  let a := nam st
  let b := nam a.2
  let c := numb 1 b.2
  let d := numb 1 c.2
  (⟨sof a.1, sof b.1, c.1, d.1⟩, d.2)
def decPat (st : Rest) : Pat × Rest :=
  let a := numb 1 st
  let b := numb 2 a.2
  let c := numb 1 b.2
  let d := numb 2 c.2
  (⟨a.1, b.1, c.1 - 1, d.1⟩, d.2)
theorem txt_few {n : Nat} {s : List UInt8} (h : s.length < n) : txt n (some s) = ([], none) := by unfold txt; exact if_pos h
theorem txt_some {n : Nat} {s : List UInt8} (h : ¬ s.length < n) : txt n (some s) = (s.take n, some (s.drop n)) := by unfold txt; exact if_neg h
theorem txt_length (n : Nat) (st : Rest) : (txt n st).1.length = n ∨ (txt n st).1 = [] ∧ (txt n st).2 = none := by
  cases st with
  | none => exact .inr ⟨rfl, rfl⟩
  | some s =>
    by_cases h : s.length < n
    · rw [txt_few h]; exact .inr ⟨rfl, rfl⟩
    · rw [txt_some h]; left; rw [List.length_take]; omega
theorem txt_left (n : Nat) (st : Rest) : (left (txt n st).2).length ≤ (left st).length := by
  cases st with
  | none => exact Nat.le_refl _
  | some s =>
    by_cases h : s.length < n
    · rw [txt_few h]; simp [left]
    · rw [txt_some h]; simp [left]
theorem numb_range (k : Nat) (st : Rest) (hk : k ≤ 2) : 0 ≤ (numb k st).1 ∧ (numb k st).1 ≤ 65535 := by
  unfold numb
  have h0 := num_nonneg (txt k st).1
  have h1 := num_lt (txt k st).1
  have h2 : (txt k st).1.length ≤ 2 := by
    rcases txt_length k st with h | h
    · omega
    · rw [h.1]; simp
  have h3 : p256 (txt k st).1.length ≤ 65536 := by
    rw [p256_pow]
    have : (2 : Int) ^ (8 * (txt k st).1.length) ≤ 2 ^ 16 := by
      have := Nat.pow_le_pow_right (show 0 < 2 by decide) (show 8 * (txt k st).1.length ≤ 16 by omega)
      exact_mod_cast this
    omega
  show 0 ≤ num _ ∧ num _ ≤ 65535
  omega
theorem numb_one (st : Rest) : (numb 1 st).1 ≤ 255 := by
  unfold numb
  have h1 := num_lt (txt 1 st).1
  have h2 : (txt 1 st).1.length ≤ 1 := by
    rcases txt_length 1 st with h | h
    · omega
    · rw [h.1]; simp
  have h3 : p256 (txt 1 st).1.length ≤ 256 := by
    rw [p256_pow]
    have : (2 : Int) ^ (8 * (txt 1 st).1.length) ≤ 2 ^ 8 := by
      have := Nat.pow_le_pow_right (show 0 < 2 by decide) (show 8 * (txt 1 st).1.length ≤ 8 by omega)
      exact_mod_cast this
    omega
  show num _ ≤ 255
  omega


def d0 (l : List UInt8) := nam (some l)
def d1 (l : List UInt8) := numb 1 (d0 l).2
def d2 (l : List UInt8) := numb 1 (d1 l).2
def d3 (l : List UInt8) := numb 2 (d2 l).2
def d4 (l : List UInt8) := txt (d3 l).1.toNat (d3 l).2
def d5 (l : List UInt8) := reps decExp (numb 1 (d4 l).2).1.toNat (numb 1 (d4 l).2).2
def d6 (l : List UInt8) := reps decImp (numb 1 (d5 l).2).1.toNat (numb 1 (d5 l).2).2
def d7 (l : List UInt8) := reps decPat (numb 1 (d6 l).2).1.toNat (numb 1 (d6 l).2).2
/-- what the bytes tell, right or not -/
def rawMod (l : List UInt8) : Mod := ⟨sof (d0 l).1, (d1 l).1, (d2 l).1, sof (d4 l).1, (d5 l).1, (d6 l).1, (d7 l).1, none, 0, none, 0, none, 0⟩
def decErr (l : List UInt8) : Int := if (d7 l).2 ≠ some [] then 1 else modErr (rawMod l)
def zeroMod : Mod := ⟨sof [], 0, 0, sof [], [], [], [], none, 0, none, 0, none, 0⟩
def decRes (l : List UInt8) : Mod := if decErr l ≠ 0 then zeroMod else rawMod l
/-- two modules tell the same, wherever their rows lie -/
structure SameC (a b : Mod) : Prop where
  name : a.name = b.name
  major : a.major = b.major
  minor : a.minor = b.minor
  text : a.text = b.text
  ex : a.ex = b.ex
  im : a.im = b.im
  pa : a.pa = b.pa
theorem SameC.err {a b : Mod} (h : SameC a b) : modErr a = modErr b := by
  unfold modErr
  rw [h.name, h.major, h.minor, h.text, h.ex, h.im, h.pa]
theorem SameC.enc {a b : Mod} (h : SameC a b) : encMod a = encMod b := by
  unfold encMod encHead
  rw [h.name, h.major, h.minor, h.text, h.ex, h.im, h.pa]
theorem left_le (n : Nat) {st : Rest} {m : Nat} (h : (left st).length ≤ m) : (left (txt n st).2).length ≤ m := Nat.le_trans (txt_left n st) h
theorem left_nam {st : Rest} {m : Nat} (h : (left st).length ≤ m) : (left (nam st).2).length ≤ m := left_le _ (left_le 1 h)
theorem left_exp {st : Rest} {m : Nat} (h : (left st).length ≤ m) : (left (decExp st).2).length ≤ m := left_le 2 (left_nam h)
theorem left_imp {st : Rest} {m : Nat} (h : (left st).length ≤ m) : (left (decImp st).2).length ≤ m := left_le 1 (left_le 1 (left_nam (left_nam h)))
theorem left_pat {st : Rest} {m : Nat} (h : (left st).length ≤ m) : (left (decPat st).2).length ≤ m := left_le 2 (left_le 1 (left_le 2 (left_le 1 h)))
theorem reps_length {α : Type} (f : Rest → α × Rest) : ∀ (n : Nat) (st : Rest), (reps f n st).1.length ≤ n
  | 0, _ => Nat.le_refl _
  | _ + 1, none => Nat.zero_le _
  | n + 1, some _ => Nat.succ_le_succ (reps_length f n _)
theorem reps_all {α : Type} {f : Rest → α × Rest} {Q : α → Prop} (h : ∀ st, Q (f st).1) : ∀ (n : Nat) (st : Rest), ∀ x ∈ (reps f n st).1, Q x
  | 0, _, x, hx => by simp [reps] at hx
  | _ + 1, none, x, hx => by simp [reps] at hx
  | n + 1, some _, x, hx => by
    rcases List.mem_cons.1 hx with rfl | hx
    · exact h _
    · exact reps_all h n _ x hx
theorem nam_le (st : Rest) : (nam st).1.length ≤ 255 := by
  have h1 : (nam st).1.length ≤ (numb 1 st).1.toNat := by
    unfold nam
    rcases txt_length (numb 1 st).1.toNat (numb 1 st).2 with h | h
    · omega
    · rw [h.1]; simp
  have h2 := numb_one st
  have h3 := (numb_range 1 st (by omega)).1
  omega

end Go.Proofs.Ytdpacbdejfjkcaa
