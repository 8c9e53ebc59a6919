import Derived.Test.YtjnfemcfohflnaaRegPure
import Derived.Test.YtjnfemcfohflnaaGrPure
import Derived.Test.YtjnfemcfohflnaaPatch2W
/- Plain Lean: bytes as they lie (chapter G): what link.image, Area and the document's ImageOf, AreaOf compute. No program in sight. -/
open Go
namespace Go.Proofs.Ytjnfemcfohflnaa
open Gs (Tx)

/-- what is wrong with a kernel and modules, but for what is not there -/
def linkErr (k : Krn) (l : List Plc) : Int := if krnErr k ≠ 0 then krnErr k else if regErr l ≠ 0 then regErr l else if isTwice l = true then 6 else 0
theorem linkErr_ok {k : Krn} {l : List Plc} (h : linkErr k l = 0) : krnErr k = 0 ∧ regErr l = 0 ∧ isTwice l = false ∧ placedErr k l = 0 := by
  unfold linkErr at h
  split at h
  · contradiction
  · rename_i h1
    split at h
    · contradiction
    · rename_i h2
      split at h
      · cases h
      · rename_i h3
        have h2' : regErr l = 0 := by omega
        refine ⟨by omega, h2', by simpa using h3, ?_⟩
        obtain ⟨h8, hall, _⟩ := reg_row h2'
        unfold placedErr
        rw [if_neg (by omega)]
        unfold modsAll
        rw [if_neg (by omega)]
        refine modsErr_zero (fun x hx => ?_)
        obtain ⟨e1, e2⟩ := hall x hx
        have := many_ok e1
        simp only [regQ, Bool.and_eq_true, decide_eq_true_eq] at e2
        exact ⟨e1, by simp only [resQ, Bool.and_eq_true, decide_eq_true_eq]; omega⟩

def baseOf (x : Plc) : Int := 4096 + 64 * x.first
def symOf (at_ : List Int) (base : Int) (p : Pat) : Int := if p.sym < 0 then base else at_.getD p.sym.toNat 0
/-- bytes, patched one by one; or what is wrong -/
def patchAll (at_ : List Int) (base : Int) : List Pat → ByteArray → ByteArray × Int
  | [], s => (s, 0)
  | p :: r, s => if applyErr s.size p.kind p.at_ p.add (symOf at_ base p) base ≠ 0 then (⟨#[]⟩, applyErr s.size p.kind p.at_ p.add (symOf at_ base p) base)
    else patchAll at_ base r (applyStr s p.kind p.at_ p.add (symOf at_ base p) base)
def pad (n : Nat) (s : Tx) : Tx := s ++ List.replicate (n - s.length) 255
def imgOf (k : Krn) (l : List Plc) (x : Plc) : Tx × Int :=
  if (addrsOf k l x.m.im).2 ≠ 0 then ([], (addrsOf k l x.m.im).2)
  else if (patchAll (addrsOf k l x.m.im).1 (baseOf x) x.m.pa x.m.text).2 ≠ 0 then ([], (patchAll (addrsOf k l x.m.im).1 (baseOf x) x.m.pa x.m.text).2)
  else (pad (64 * (manyOf x.m).toNat) (tx (patchAll (addrsOf k l x.m.im).1 (baseOf x) x.m.pa x.m.text).1), 0)
def areaGo (k : Krn) (l : List Plc) : List Plc → Int → Tx × Int
  | [], at_ => (List.replicate (64 * (16 - at_)).toNat 255, 0)
  | x :: r, at_ => if (imgOf k l x).2 ≠ 0 then ([], (imgOf k l x).2) else
    if (areaGo k l r (endOf x)).2 ≠ 0 then ([], (areaGo k l r (endOf x)).2) else (List.replicate (64 * (x.first - at_)).toNat 255 ++ (imgOf k l x).1 ++ (areaGo k l r (endOf x)).1, 0)
def imageErr (k : Krn) (l : List Plc) (nm : ByteArray) : Int := if linkErr k l ≠ 0 then linkErr k l else match l.find? (named nm) with
  | none => 5
  | some x => (imgOf k l x).2
def imageT (k : Krn) (l : List Plc) (nm : ByteArray) : Tx := if linkErr k l ≠ 0 then [] else match l.find? (named nm) with
  | none => []
  | some x => (imgOf k l x).1
def areaErr (k : Krn) (l : List Plc) : Int := if linkErr k l ≠ 0 then linkErr k l else (areaGo k l l 0).2
def areaT (k : Krn) (l : List Plc) : Tx := if linkErr k l ≠ 0 then [] else (areaGo k l l 0).1

theorem applyStr_size {s : ByteArray} {kind at_ add sym base : Int} (h : applyErr s.size kind at_ add sym base = 0) : (applyStr s kind at_ add sym base).size = s.size := by
  unfold applyStr
  rw [if_pos h]
  have hw : widthOf kind ≠ 0 := by intro e; unfold applyErr at h; rw [if_pos e] at h; omega
  have h2 : ¬ (add < 0 ∨ 65535 < add ∨ at_ < 0 ∨ s.size - widthOf kind < at_ ∨ base < 0 ∨ 65279 < base) := by
    intro e; unfold applyErr at h; rw [if_neg hw, if_pos e] at h; omega
  have hr := width_rng kind hw
  exact putStr_size s _ _ _ (by omega)
theorem patchAll_size {at_ : List Int} {base : Int} : ∀ {r : List Pat} {s : ByteArray}, (patchAll at_ base r s).2 = 0 → (patchAll at_ base r s).1.size = s.size
  | [], s, _ => rfl
  | p :: r, s, h => by
    unfold patchAll at h ⊢
    by_cases e : applyErr s.size p.kind p.at_ p.add (symOf at_ base p) base = 0
    · rw [if_neg (by omega)] at h ⊢
      rw [patchAll_size h, applyStr_size e]
    · rw [if_pos e] at h; exact absurd h e
theorem pad_length {n : Nat} {s : Tx} (h : s.length ≤ n) : (pad n s).length = n := by
  unfold pad; rw [List.length_append, List.length_replicate]; omega
theorem many_text (m : Mod) : (m.text.size : Int) ≤ 64 * manyOf m ∧ 64 * manyOf m < m.text.size + 64 ∧ 0 ≤ manyOf m := by
  unfold manyOf; omega
theorem imgOf_length {k : Krn} {l : List Plc} {x : Plc} (h : (imgOf k l x).2 = 0) : ((imgOf k l x).1.length : Int) = 64 * manyOf x.m := by
  obtain ⟨h1, h2, h3⟩ := many_text x.m
  unfold imgOf at h ⊢
  split at h
  · contradiction
  · rename_i e1
    split at h
    · contradiction
    · rename_i e2
      rw [if_neg e1, if_neg e2]
      have := patchAll_size (show (patchAll (addrsOf k l x.m.im).1 (baseOf x) x.m.pa x.m.text).2 = 0 by omega)
      show ((pad _ _).length : Int) = _
      rw [pad_length]
      · omega
      · show (patchAll (addrsOf k l x.m.im).1 (baseOf x) x.m.pa x.m.text).1.size ≤ _
        omega

end Go.Proofs.Ytjnfemcfohflnaa
