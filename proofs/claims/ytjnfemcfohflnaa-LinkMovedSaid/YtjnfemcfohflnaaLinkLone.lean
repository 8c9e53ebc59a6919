import Derived.Test.YtjnfemcfohflnaaLinkPure
/- Plain Lean: one module's text put anew, as many bytes: all others' images are as they were. -/
open Go
namespace Go.Proofs.Ytjnfemcfohflnaa
open Gs (Tx)

def txtP (x : Plc) (t : ByteArray) : Plc := ⟨{ x.m with text := t }, x.first⟩
/-- a module with nothing of its text but how many bytes -/
def norm (x : Plc) : Plc := txtP x ⟨Array.replicate x.m.text.size 0⟩
theorem norm_size (x : Plc) : (norm x).m.text.size = x.m.text.size := by
  show (Array.replicate x.m.text.size (0 : UInt8)).size = _
  simp
theorem norm_txt {x : Plc} {t : ByteArray} (h : t.size = x.m.text.size) : norm (txtP x t) = norm x := by
  unfold norm
  show txtP x ⟨Array.replicate t.size 0⟩ = _
  rw [h]
theorem norm_mod (x : Plc) : modErr (norm x).m = modErr x.m := by
  unfold modErr
  rw [norm_size]
  rfl
theorem norm_many (x : Plc) : manyOf (norm x).m = manyOf x.m := by unfold manyOf; rw [norm_size]
theorem norm_end (x : Plc) : endOf (norm x) = endOf x := by unfold endOf; rw [norm_many]; rfl
theorem norm_q (x : Plc) : regQ (norm x) = regQ x := by unfold regQ; rw [norm_many]; rfl
theorem norm_mods : ∀ l : List Plc, modsErr regQ (l.map norm) = modsErr regQ l
  | [] => rfl
  | x :: l => by
    rw [List.map_cons]; unfold modsErr; rw [norm_mod, norm_q, norm_mods l]
theorem norm_adj : ∀ l : List Plc, adjErr (l.map norm) = adjErr l
  | [] => rfl
  | [x] => rfl
  | x :: y :: l => by
    have := norm_adj (y :: l)
    rw [List.map_cons] at this
    rw [List.map_cons, List.map_cons]
    unfold adjErr
    rw [this, norm_end]
    rfl
theorem norm_reg (l : List Plc) : regErr (l.map norm) = regErr l := by
  unfold regErr modsAll; rw [norm_mods, norm_adj, List.length_map]
theorem norm_twice (l : List Plc) : isTwice (l.map norm) = isTwice l := by
  have e : txs (l.map norm) = txs l := by unfold txs; rw [List.map_map]; rfl
  unfold isTwice; rw [e, List.length_map]
theorem norm_link (k : Krn) (l : List Plc) : linkErr k (l.map norm) = linkErr k l := by
  unfold linkErr; rw [norm_reg, norm_twice]
theorem norm_find (nm : ByteArray) (l : List Plc) : (l.map norm).find? (named nm) = (l.find? (named nm)).map norm := by
  rw [List.find?_map]; rfl
theorem norm_addr (k : Krn) (l : List Plc) (i : Imp) : addrOf k (l.map norm) i = addrOf k l i := by
  unfold addrOf
  rw [norm_find]
  cases l.find? (named i.mod) <;> rfl
theorem norm_addrs (k : Krn) (l : List Plc) : ∀ r : List Imp, addrsOf k (l.map norm) r = addrsOf k l r
  | [] => rfl
  | i :: r => by unfold addrsOf; rw [norm_addr, norm_addrs k l r]
theorem norm_img (k : Krn) (l : List Plc) (x : Plc) : imgOf k (l.map norm) x = imgOf k l x := by
  unfold imgOf; rw [norm_addrs]

theorem find_own {l : List Plc} (h : isTwice l = false) {i : Nat} (hi : i < l.length) : l.find? (named l[i].m.name) = some l[i] := by
  have hn := not_twice h
  rcases find_cases (named l[i].m.name) l with ⟨_, e⟩ | ⟨j, hj, _, e⟩
  · have := List.find?_eq_none.1 e l[i] (List.getElem_mem _)
    simp [named] at this
  · have hq := List.find?_some e
    have hnm : l[j].m.name = l[i].m.name := by simpa [named] using hq
    have : j = i := by
      have h1 : (txs l)[j]'(by rw [txs_length]; exact hj) = (txs l)[i]'(by rw [txs_length]; exact hi) := by
        simp only [txs, List.getElem_map]; rw [hnm]
      exact (List.getElem_inj hn).1 h1
    subst this
    exact e
def withText (l : List Plc) (n : Nat) (h : n < l.length) (t : ByteArray) : List Plc := l.set n (txtP l[n] t)
section
variable {k : Krn} {l : List Plc} {n : Nat} {hn : n < l.length} {t : ByteArray}
theorem with_norm (ht : t.size = l[n].m.text.size) : (withText l n hn t).map norm = l.map norm := by
  unfold withText
  rw [List.map_set, norm_txt ht]
  have e : norm l[n] = (l.map norm)[n]'(by simpa using hn) := by simp
  rw [e, List.set_getElem_self]
theorem with_length : (withText l n hn t).length = l.length := by unfold withText; exact List.length_set
theorem with_link (ht : t.size = l[n].m.text.size) : linkErr k (withText l n hn t) = linkErr k l := by
  rw [← norm_link, with_norm ht, norm_link]
theorem with_img (ht : t.size = l[n].m.text.size) (x : Plc) : imgOf k (withText l n hn t) x = imgOf k l x := by
  rw [← norm_img, with_norm ht, norm_img]
theorem with_twice (ht : t.size = l[n].m.text.size) : isTwice (withText l n hn t) = isTwice l := by
  rw [← norm_twice, with_norm ht, norm_twice]
theorem with_find (ht : t.size = l[n].m.text.size) (h : isTwice l = false) {i : Nat} (hi : i < l.length) (hne : i ≠ n) : (withText l n hn t).find? (named l[i].m.name) = some l[i] := by
  have h' : isTwice (withText l n hn t) = false := (with_twice ht).trans h
  have hi' : i < (withText l n hn t).length := by rw [with_length]; exact hi
  have e : (withText l n hn t)[i] = l[i] := by unfold withText; exact List.getElem_set_ne (by omega) _
  have := find_own h' hi'
  rw [e] at this
  exact this
/-- an image hangs on its own module, and on those that it asks -/
theorem lone_law (ht : t.size = l[n].m.text.size) {i : Nat} (hi : i < l.length) (hne : i ≠ n) :
    imageErr k (withText l n hn t) l[i].m.name = imageErr k l l[i].m.name ∧ imageT k (withText l n hn t) l[i].m.name = imageT k l l[i].m.name := by
  unfold imageErr imageT
  rw [with_link ht]
  by_cases e : linkErr k l = 0
  · have h2 := (linkErr_ok e).2.2.1
    rw [with_find ht h2 hi hne, find_own h2 hi]
    simp [with_img ht]
  · rw [if_pos e, if_pos e, if_pos e, if_pos e]
    exact ⟨rfl, rfl⟩
end


end Go.Proofs.Ytjnfemcfohflnaa
