import Derived.Test.YtdpacbdejfjkcaaModPure
import Derived.Test.YtdpacbdejfjkcaaPure
/- Plain Lean: bytes of a module (chapter B). No program in sight. -/
open Go
namespace Go.Proofs.Ytdpacbdejfjkcaa

def encName (s : ByteArray) : List UInt8 := digits s.size 1 ++ s.data.toList
def encExp (x : Exp) : List UInt8 := encName x.name ++ digits x.at_ 2
def encImp (x : Imp) : List UInt8 := encName x.mod ++ encName x.name ++ digits x.major 1 ++ digits x.minor 1
def encPat (p : Pat) : List UInt8 := digits p.kind 1 ++ digits p.at_ 2 ++ digits (p.sym + 1) 1 ++ digits p.add 2
def encHead (m : Mod) : List UInt8 := encName m.name ++ digits m.major 1 ++ digits m.minor 1 ++ digits m.text.size 2 ++ m.text.data.toList
def encMod (m : Mod) : List UInt8 := encHead m ++ digits m.ex.length 1 ++ m.ex.flatMap encExp ++ digits m.im.length 1 ++ m.im.flatMap encImp ++ digits m.pa.length 1 ++ m.pa.flatMap encPat
theorem flat_le {α : Type} {f : α → List UInt8} {K : Nat} : ∀ {l : List α}, (∀ x ∈ l, (f x).length ≤ K) → (l.flatMap f).length ≤ l.length * K
  | [], _ => by simp
  | x :: l, h => by
    have h1 := flat_le (l := l) fun y hy => h y (List.mem_cons_of_mem _ hy)
    have h2 := h x (by simp)
    rw [List.flatMap_cons, List.length_append, List.length_cons, Nat.succ_mul]
    omega
theorem flat_take {α : Type} {f : α → List UInt8} {l : List α} {j : Nat} (h : j < l.length) : (l.take (j + 1)).flatMap f = (l.take j).flatMap f ++ f l[j] := by
  rw [List.take_succ_eq_append_getElem h, List.flatMap_append]
  simp
theorem encName_length (s : ByteArray) : (encName s).length = s.size + 1 := by
  unfold encName
  rw [List.length_append, digits_length]
  have : s.data.toList.length = s.size := by rw [Array.length_toList]; rfl
  omega
theorem encExp_length (x : Exp) : (encExp x).length = x.name.size + 3 := by
  unfold encExp
  rw [List.length_append, digits_length, encName_length]
theorem encImp_length (x : Imp) : (encImp x).length = x.mod.size + x.name.size + 4 := by
  unfold encImp
  simp only [List.length_append, digits_length, encName_length]
  omega
theorem encPat_length (x : Pat) : (encPat x).length = 6 := by
  unfold encPat
  simp only [List.length_append, digits_length]

end Go.Proofs.Ytdpacbdejfjkcaa
