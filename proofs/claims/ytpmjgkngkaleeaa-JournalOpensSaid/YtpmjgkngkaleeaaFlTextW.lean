import Derived.Test.YtpmjgkngkaleeaaFlSameW
import Derived.Test.YtpmjgkngkaleeaaShelf
import Derived.Laws.CopyOwn
import Derived.Deep.OwnRows
import Derived.Deep.RegionLaw
/- Texts copied, repeated, joined (chapter K): slices.Clone, slices.Repeat, flash.blank, flash.All, flash.New. -/
namespace Go.Proofs.Ytpmjgkngkaleeaa
open Go.RowKit

theorem spot_none {w : World} {a : Addr} {v : Value} (h : w.cell? a = some v) : a.spot = none := by
  unfold World.cell? at h
  split at h
  · split at h
    · cases h
    · next hs => simpa using hs
  · cases h
/-- a slice of texts that is not empty: where it lies -/
theorem texts_form {w : World} {A : Option Addr} {l : List ByteArray} (h : Row strCells 1 w A l) (hn : 0 < l.length) : ∃ b off, A = some ⟨b, off, none⟩ ∧ b < w.heap.size ∧ ∀ (j : Nat) x, l[j]? = some x → w.cell? ⟨b, off + j, none⟩ = some (.string x) := by
  obtain ⟨ad, rfl, hab, h0⟩ := text_at h (Below.refl _ _) 0 hn
  rw [add_zero_] at h0
  have hs := spot_none h0
  obtain ⟨b, off, sp⟩ := ad
  obtain rfl : sp = none := hs
  refine ⟨b, off, rfl, hab, fun j x hx => ?_⟩
  obtain ⟨hj, hx⟩ := List.getElem?_eq_some_iff.1 hx
  obtain ⟨ad, e, _, hc⟩ := text_at h (Below.refl _ _) j hj
  obtain rfl := Option.some.inj e
  rw [hx] at hc
  rw [← hc]
  congr 1
  unfold Addr.add
  split
  · next h => rw [h, Nat.add_zero]
  · rfl
theorem join_flat (l : List ByteArray) : Lib.join (l.map (·.data.toList)) (⟨#[]⟩ : ByteArray).data.toList = flat l := by
  cases l with
  | nil => rfl
  | cons x l =>
    rw [List.map_cons, Lib.join_cons]
    unfold Lib.joinTail flat
    rw [List.flatMap_cons, List.flatMap_def]
    simp
    rfl
theorem repeat_blank : ∀ n, Lib.repeatL [255] n = List.replicate n 255
  | 0 => rfl
  | n + 1 => by rw [Lib.repeatL, repeat_blank n, List.replicate_succ]; rfl

theorem Clone_any (A : Option Addr) (l : List ByteArray) (c : Nat) (w : World) (h : Row strCells 1 w A l) (hn : 0 < l.length) (hl : l.length ≤ 1000000) :
    Calls Try.prog 44 #[.slice A l.length c] w fun e w' => Below w.heap.size w w' ∧ ∃ (A' : Option Addr) (c' : Nat), e = .returned (.slice A' l.length c') ∧ l.length ≤ c' ∧ TOwn w' w.heap.size (.slice A' l.length c') l := by
  obtain ⟨b, off, rfl, hb, hc⟩ := texts_form h hn
  have hs := Try.slices_Clone_string b off l.length c l w (Nat.le_refl _) (by omega) (fun j hj => by
    refine hc j _ ?_
    rw [List.getD_eq_getElem?_getD, List.getElem?_eq_getElem hj]; rfl)
  refine Calls.mono hs ?_
  rintro e w' ⟨v, he, ho, _, hb'⟩
  rw [List.take_of_length_le (Nat.le_refl _)] at ho
  obtain ⟨A', c', hv, _, hc'⟩ := TOwn.form (show TOwn w' w.heap.size v l from ho)
  subst hv
  exact ⟨hb', A', c', he, hc', ho⟩

set_option maxHeartbeats 2000000 in
set_option maxRecDepth 100000 in
theorem blank_any (w : World) : Calls Try.prog 33 #[] w fun e w' => e = .returned (.string blank) ∧ Below w.heap.size w w' := by
  have cR := Lib.hid (fun W => Try.strings_Repeat ⟨#[255]⟩ 128 W (by decide) (by decide))
  have hb : (⟨(Lib.repeatL (⟨#[255]⟩ : ByteArray).data.toList 128).toArray⟩ : ByteArray) = blank := by
    show (⟨(Lib.repeatL [255] 128).toArray⟩ : ByteArray) = _
    rw [repeat_blank]; rfl
  rw [hb] at cR
  obtain ⟨B, hB⟩ : ∃ B, B = blank := ⟨_, rfl⟩
  rw [← hB] at cR ⊢
  clear hB hb
  go_enter Try.func33, Try.ntmps33
  go_wp2_with (go_at_call 48; refine (cR.out _).mono ?_; rintro e w' ⟨rfl, hb⟩)
  go_ret
  exact ⟨rfl, hb⟩

set_option maxHeartbeats 2000000 in
set_option maxRecDepth 100000 in
theorem All_any (f : Fl) (w : World) (h : f.ok w) (hf : flErr f.bl = 0) : Calls Try.prog 31 #[f.v] w fun e w' => e = .returned (.string (ofBytes (flat f.bl))) ∧ Below w.heap.size w w' := by
  obtain ⟨h1, h2⟩ := flErr_ok.1 hf
  obtain ⟨b, off, hA, hb, hc⟩ := texts_form h.row.row (by omega)
  obtain ⟨w0, hw0⟩ : ∃ w0, w0 = w.alloc (.cells #[.slice f.a f.bl.length f.c] 24) := ⟨_, rfl⟩
  obtain ⟨f0, hz0, hb0⟩ := box1 hw0
  have hw0' := hw0.symm
  have HB0 := Lib.hid hb0
  have hfl := flat_length' h2
  have cJ := Lib.hid (Try.strings_Join b off f.c f.bl ⟨#[]⟩ w0 (fun j x hx => (hb0.cell (p := ⟨b, off + j, none⟩) hb).trans (hc j x hx)) (by omega) (by omega) h.cap (by rw [join_flat]; omega))
  rw [join_flat] at cJ
  rw [hA] at f0 hw0'
  obtain ⟨R, hR⟩ : ∃ R, R = ofBytes (flat f.bl) := ⟨_, rfl⟩
  change Hid (Calls _ _ _ _ fun e w' => e = .returned (.string (ofBytes (flat f.bl))) ∧ _) at cJ
  rw [← hR] at cJ ⊢
  unfold Fl.v
  rw [hA]
  clear hw0 hb0 h hf h1 h2 hfl hR hc hA
  go_enter Try.func31, Try.ntmps31
  go_wp2_with (go_at_call 46; refine (cJ.out).mono ?_; rintro e w1 ⟨rfl, hb1⟩)
  go_ret
  exact ⟨rfl, HB0.out.trans (hb1.mono (by omega))⟩

theorem Mul_one (c : Nat) (hc : c ≤ 32) (w : World) : Calls Try.prog 47 #[.int .u64 1, .int .u64 c] w fun e w' => e = .returned (.tuple #[.int .u64 0, .int .u64 c]) ∧ w = w' := by
  have h := Try.bits_Mul 1 c (by omega) (by omega) w
  have e1 : 1 * c / 18446744073709551616 = 0 := by omega
  have e2 : 1 * c % 18446744073709551616 = c := by omega
  rw [e1, e2] at h
  exact Calls.mono h fun e w' ⟨he, hw⟩ => ⟨he, hw.symm⟩

/-- a row that is filled as far as n -/
def filled (s : ByteArray) (c n : Nat) : List Value := List.replicate n (.string s) ++ List.replicate (c - n) (.string ⟨#[]⟩)
theorem filled_length {s : ByteArray} {c n : Nat} (h : n ≤ c) : (filled s c n).length = c := by simp [filled]; omega
theorem made_filled (s : ByteArray) (c : Nat) : madeCells #[Value.string ⟨#[]⟩] c = (filled s c 0).toArray := by
  apply Array.ext
  · simp [size_madeCells, filled]
  · intro i h1 h2
    simp [madeCells, filled, Nat.mod_one]
theorem splice_filled (s : ByteArray) (c n k : Nat) (h : n + k ≤ c) : splice (filled s c n) n (List.replicate k (.string s)) = filled s c (n + k) := by
  unfold splice filled
  simp only [List.length_replicate]
  rw [List.take_append_of_le_length (by simp), List.take_of_length_le (by simp), List.drop_append]
  rw [List.drop_eq_nil_of_le (by simp), List.nil_append, List.drop_replicate, List.length_replicate, ← List.append_assoc, List.replicate_append_replicate]
  congr 2
  omega
theorem filled_get (s : ByteArray) (c n j : Nat) (h : j < n) : (filled s c n)[j]? = some (.string s) := by
  unfold filled
  rw [List.getElem?_append_left (by simpa using h), List.getElem?_replicate, if_pos h]

end Go.Proofs.Ytpmjgkngkaleeaa
