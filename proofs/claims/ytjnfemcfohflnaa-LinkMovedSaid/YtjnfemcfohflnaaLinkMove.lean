import Derived.Test.YtjnfemcfohflnaaLAreaW
/- Plain Lean: bytes that no patch touches are those of the text; in the area each image lies where it is placed, bytes 255 elsewhere. -/
open Go
namespace Go.Proofs.Ytjnfemcfohflnaa
open Gs (Tx)

theorem pats_in {z ni : Int} : ∀ {l : List Pat} {e : Int}, patsErr z ni e l = 0 → ∀ p ∈ l, 0 ≤ p.at_ ∧ p.at_ + widthOf p.kind ≤ z
  | p :: l, e, h, q, hq => by
    unfold patsErr at h
    by_cases h1 : patErr z ni e p = 0
    · rw [if_neg (by omega)] at h
      rcases List.mem_cons.1 hq with rfl | hq
      · unfold patErr at h1
        split at h1
        · omega
        · split at h1
          · omega
          · omega
      · exact pats_in h q hq
    · rw [if_pos h1] at h; exact absurd h h1
theorem mod_in {m : Mod} (h : modErr m = 0) : ∀ p ∈ m.pa, 0 ≤ p.at_ ∧ p.at_ + widthOf p.kind ≤ m.text.size := by
  have hf := modErr_facts h
  unfold modErr at h
  obtain ⟨a1, a2, a3, a4, a5, a6, a7, a8, _, _, a9⟩ := hf
  rw [if_neg (by simp [a1, a2]), if_neg (by omega), if_neg (by omega), if_neg (by omega), if_neg (by omega), if_neg (by omega)] at h
  exact pats_in h
theorem put_at {s : ByteArray} {a k : Nat} {v : Int} (h : a + k ≤ s.size) {i : Nat} (ho : i < a ∨ a + k ≤ i) : (tx (putStr s a k v))[i]? = (tx s)[i]? := by
  have hl : (tx s).length = s.size := rfl
  show (s.data.toList.take a ++ digits v k ++ s.data.toList.drop (a + k))[i]? = s.data.toList[i]?
  have h1 : (s.data.toList.take a).length = a := by rw [List.length_take]; have : s.data.toList.length = s.size := rfl; omega
  rcases ho with ho | ho
  · rw [List.append_assoc, List.getElem?_append_left (by omega), List.getElem?_take_of_lt ho]
  · rw [List.getElem?_append_right (by rw [List.length_append, h1, digits_length]; omega), List.length_append, h1, digits_length, List.getElem?_drop]
    congr 1; omega
theorem apply_at {s : ByteArray} {kind at_ add sym base : Int} (h : applyErr s.size kind at_ add sym base = 0) {i : Nat} (ho : (i : Int) < at_ ∨ at_ + widthOf kind ≤ i) : (tx (applyStr s kind at_ add sym base))[i]? = (tx s)[i]? := by
  unfold applyStr
  rw [if_pos h]
  have hw : widthOf kind ≠ 0 := by intro e; unfold applyErr at h; rw [if_pos e] at h; omega
  have h2 : ¬ (add < 0 ∨ 65535 < add ∨ at_ < 0 ∨ s.size - widthOf kind < at_ ∨ base < 0 ∨ 65279 < base) := by
    intro e; unfold applyErr at h; rw [if_neg hw, if_pos e] at h; omega
  have hr := width_rng kind hw
  exact put_at (by omega) (by omega)
/-- does a patch touch byte i? -/
def touches (i : Nat) (p : Pat) : Bool := decide (p.at_ ≤ i) && decide ((i : Int) < p.at_ + widthOf p.kind)
theorem patch_at {at_ : List Int} {base : Int} {i : Nat} : ∀ {r : List Pat} {s : ByteArray}, (patchAll at_ base r s).2 = 0 → r.any (touches i) = false → (tx (patchAll at_ base r s).1)[i]? = (tx s)[i]?
  | [], _, _, _ => rfl
  | p :: r, s, h, ht => by
    rw [List.any_cons, Bool.or_eq_false_iff] at ht
    unfold patchAll at h ⊢
    by_cases e : applyErr s.size p.kind p.at_ p.add (symOf at_ base p) base = 0
    · rw [if_neg (by omega)] at h ⊢
      rw [patch_at h ht.2]
      refine apply_at e ?_
      have := ht.1
      simp only [touches, Bool.and_eq_false_iff, decide_eq_false_iff_not] at this
      omega
    · rw [if_pos e] at h; exact absurd h e
/-- an image's bytes: of the text, where no patch touches; 255 behind it -/
theorem img_at {k : Krn} {l : List Plc} {x : Plc} (h : (imgOf k l x).2 = 0) (i : Nat) :
    (i < x.m.text.size → x.m.pa.any (touches i) = false → (imgOf k l x).1[i]? = (tx x.m.text)[i]?) ∧ (x.m.text.size ≤ i → ∀ b, (imgOf k l x).1[i]? = some b → b = 255) := by
  unfold imgOf at h ⊢
  split at h
  · contradiction
  · rename_i e1
    split at h
    · contradiction
    · rename_i e2
      rw [if_neg e1, if_neg e2]
      have e3 : (patchAll (addrsOf k l x.m.im).1 (baseOf x) x.m.pa x.m.text).2 = 0 := by omega
      have hs := patchAll_size e3
      have hl : (tx (patchAll (addrsOf k l x.m.im).1 (baseOf x) x.m.pa x.m.text).1).length = x.m.text.size := hs
      unfold pad
      refine ⟨fun h1 h2 => ?_, fun h1 b hb => ?_⟩
      · show (_ ++ _)[i]? = _
        rw [List.getElem?_append_left (by omega)]
        exact patch_at e3 h2
      · rw [List.getElem?_append_right (by omega)] at hb
        obtain ⟨_, hb⟩ := List.getElem?_eq_some_iff.1 hb
        rw [List.getElem_replicate] at hb
        exact hb.symm

theorem row16_first : ∀ {l : List Plc} {a : Int}, Row16 a l → ∀ x ∈ l, a ≤ x.first ∧ endOf x ≤ 16
  | [], _, _, x, hx => by cases hx
  | y :: l, a, ⟨h1, h2, h3, h4⟩, x, hx => by
    have h5 := h4.le
    rcases List.mem_cons.1 hx with rfl | hx
    · exact ⟨h1, h5⟩
    · have := row16_first h4 x hx
      have he : endOf y = y.first + manyOf y.m := rfl
      exact ⟨by omega, this.2⟩
theorem area_law {k : Krn} {l : List Plc} : ∀ {r : List Plc} {a : Int} {T : Tx}, areaGo k l r a = (T, 0) → Row16 a r →
    (T.length : Int) = 64 * (16 - a) ∧ (∀ x ∈ r, (imgOf k l x).2 = 0 ∧ ∃ d : Nat, (d : Int) = 64 * (x.first - a) ∧ (T.drop d).take (imgOf k l x).1.length = (imgOf k l x).1) ∧
      ∀ (n : Nat) b, T[n]? = some b → (∀ x ∈ r, (n : Int) < 64 * (x.first - a) ∨ 64 * (endOf x - a) ≤ n) → b = 255
  | [], a, T, h, hr => by
    have ha : a ≤ 16 := hr
    unfold areaGo at h
    injection h with h _
    subst h
    refine ⟨by rw [List.length_replicate]; omega, fun x hx => (by cases hx), fun n b hb _ => ?_⟩
    obtain ⟨_, hb⟩ := List.getElem?_eq_some_iff.1 hb
    rw [List.getElem_replicate] at hb
    exact hb.symm
  | x :: r, a, T, h, hr => by
    obtain ⟨h1, h2, h3, h4⟩ := hr
    unfold areaGo at h
    split at h
    · rename_i e; injection h with _ h; exact absurd h e
    · rename_i e1
      split at h
      · rename_i e; injection h with _ h; exact absurd h e
      · rename_i e2
        injection h with h _
        have e1' : (imgOf k l x).2 = 0 := by omega
        have e2' : (areaGo k l r (endOf x)).2 = 0 := by omega
        obtain ⟨T', hT'⟩ : ∃ T', T' = (areaGo k l r (endOf x)).1 := ⟨_, rfl⟩
        obtain ⟨i1, i2, i3⟩ := area_law (show areaGo k l r (endOf x) = (T', 0) by rw [hT', ← e2']) h4
        rw [← hT'] at h
        have hG := imgOf_length e1'
        obtain ⟨G, hGG⟩ : ∃ G, G = (imgOf k l x).1 := ⟨_, rfl⟩
        rw [← hGG] at h hG
        obtain ⟨p, hp⟩ : ∃ p, p = (64 * (x.first - a)).toNat := ⟨_, rfl⟩
        rw [← hp] at h
        have hpz : (p : Int) = 64 * (x.first - a) := by omega
        have he : endOf x = x.first + manyOf x.m := rfl
        have hpl : (List.replicate p (255 : UInt8)).length = p := List.length_replicate
        subst h
        refine ⟨by rw [List.length_append, List.length_append, hpl]; omega, fun y hy => ?_, fun n b hb hn => ?_⟩
        · rcases List.mem_cons.1 hy with rfl | hy
          · refine ⟨e1', p, hpz, ?_⟩
            rw [← hGG, List.append_assoc, List.drop_append_of_le_length (by omega), List.drop_of_length_le (by omega), List.nil_append, List.take_left']
            rfl
          · obtain ⟨j1, d, j2, j3⟩ := i2 y hy
            refine ⟨j1, p + G.length + d, by omega, ?_⟩
            rw [List.drop_append, List.drop_of_length_le (by rw [List.length_append, hpl]; omega), List.nil_append, List.length_append, hpl, Nat.add_sub_cancel_left]
            exact j3
        · by_cases hn1 : n < p
          · rw [List.append_assoc, List.getElem?_append_left (by omega)] at hb
            obtain ⟨_, hb⟩ := List.getElem?_eq_some_iff.1 hb
            rw [List.getElem_replicate] at hb
            exact hb.symm
          · have hx := hn x List.mem_cons_self
            rw [List.getElem?_append_right (by rw [List.length_append, hpl]; omega), List.length_append, hpl] at hb
            refine i3 _ b hb fun y hy => ?_
            have := hn y (List.mem_cons_of_mem _ hy)
            omega

end Go.Proofs.Ytjnfemcfohflnaa
