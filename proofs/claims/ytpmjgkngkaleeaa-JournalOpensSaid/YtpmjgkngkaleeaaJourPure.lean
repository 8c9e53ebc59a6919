import Derived.Test.YtpmjgkngkaleeaaFlashPure
/- Plain Lean: flashes of ours: entries, records, what is put on them (chapter L). No program in sight. -/
open Go
namespace Go.Proofs.Ytpmjgkngkaleeaa

/-- how long the first n bytes are without those behind that are 255 -/
def usedTo (l : List UInt8) : Nat → Nat
  | 0 => 0
  | n + 1 => if l.getD n 0 = 255 then usedTo l n else n + 1
def usedN (l : List UInt8) : Nat := usedTo l l.length
theorem usedTo_le (l : List UInt8) : ∀ n, usedTo l n ≤ n
  | 0 => Nat.le_refl _
  | n + 1 => by
    unfold usedTo
    split
    · have := usedTo_le l n; omega
    · exact Nat.le_refl _
theorem usedTo_spec (l : List UInt8) : ∀ n j, usedTo l n ≤ j → j < n → l.getD j 0 = 255
  | 0, j, _, h => by omega
  | n + 1, j, h, hj => by
    unfold usedTo at h
    split at h
    · next e =>
      rcases Nat.lt_or_ge j n with hlt | hge
      · exact usedTo_spec l n j h hlt
      · rw [show j = n by omega]; exact e
    · omega
theorem usedTo_bound (l : List UInt8) (m : Nat) : ∀ n, (∀ j, m ≤ j → j < n → l.getD j 0 = 255) → usedTo l n ≤ m
  | 0, _ => Nat.zero_le _
  | n + 1, h => by
    unfold usedTo
    split
    · exact usedTo_bound l m n fun j h1 h2 => h j h1 (by omega)
    · next e =>
      rcases Nat.lt_or_ge n m with hlt | hge
      · omega
      · exact absurd (h n hge (by omega)) e
theorem used_blank {l : List UInt8} : usedN l = 0 ↔ ∀ j, j < l.length → l.getD j 0 = 255 :=
  ⟨fun h j hj => usedTo_spec l l.length j (by have : usedTo l l.length = 0 := h; omega) hj, fun h => Nat.le_zero.1 (usedTo_bound l 0 _ fun j _ hj => h j hj)⟩

def entryOf (S : List UInt8) (i : Nat) : List UInt8 := (S.drop (S.length - 5 * (i + 1))).take 5
def two (a b : UInt8) : Nat := a.toNat + 256 * b.toNat
def entAt (E : List UInt8) : Nat := two (E.getD 0 0) (E.getD 1 0)
def entMany (E : List UInt8) : Nat := two (E.getD 2 0) (E.getD 3 0)
def cutOf (S : List UInt8) (a n : Nat) : ByteArray := ofBytes ((S.drop a).take n)
/-- an entry that was begun -/
def Begun (S : List UInt8) (i : Nat) : Prop := 5 * (i + 1) ≤ S.length ∧ usedN (entryOf S i) ≠ 0
instance (S : List UInt8) (i : Nat) : Decidable (Begun S i) := by unfold Begun; infer_instance
/-- what an entry makes of the records so far, and of their end; none: it is none of ours -/
def readOf (S E : List UInt8) (r : List ByteArray) (e : Nat) : Option (List ByteArray × Nat) :=
  if E.getD 4 0 ≠ 0 then some (r, e)
  else if S.length < entAt E + entMany E ∨ entMany E = 0 ∨ 800 < entMany E then none
  else some (r ++ [cutOf S (entAt E) (entMany E)], max e (entAt E + entMany E))
def jscan (S : List UInt8) : Nat → Nat → List ByteArray → Nat → Option (Nat × List ByteArray × Nat)
  | 0, i, r, e => some (i, r, e)
  | k + 1, i, r, e => if Begun S i then (match readOf S (entryOf S i) r e with | none => none | some p => jscan S k (i + 1) p.1 p.2) else some (i, r, e)
/-- a flash that is loaded: how many entries were begun, the records, where the next one may begin -/
def jload (S : List UInt8) : Option (Nat × List ByteArray × Nat) :=
  match jscan S (S.length + 1) 0 [] 0 with
  | none => none
  | some p => some (p.1, p.2.1, max p.2.2 (usedN (S.take (S.length - 5 * p.1))))
theorem jscan_succ (S : List UInt8) (k i : Nat) (r : List ByteArray) (e : Nat) : jscan S (k + 1) i r e = if Begun S i then (match readOf S (entryOf S i) r e with | none => none | some p => jscan S k (i + 1) p.1 p.2) else some (i, r, e) := rfl

/-- two flashes alike below a, and from b on -/
def Alike (S T : List UInt8) (a b : Nat) : Prop := T.length = S.length ∧ ∀ j, j < S.length → (j < a ∨ b ≤ j) → T.getD j 0 = S.getD j 0
theorem get_take_drop {S : List UInt8} {a n j : Nat} (hj : j < n) : ((S.drop a).take n).getD j 0 = S.getD (a + j) 0 := by
  rw [List.getD_eq_getElem?_getD, List.getElem?_take_of_lt hj, List.getElem?_drop, List.getD_eq_getElem?_getD]
theorem cut_eq {S T : List UInt8} {a n : Nat} (hl : T.length = S.length) (h : ∀ j, j < S.length → a ≤ j → j < a + n → T.getD j 0 = S.getD j 0) : (T.drop a).take n = (S.drop a).take n := by
  apply List.ext_getElem?
  intro j
  rcases Nat.lt_or_ge j n with hj | hj
  · rw [List.getElem?_take_of_lt hj, List.getElem?_take_of_lt hj, List.getElem?_drop, List.getElem?_drop]
    rcases Nat.lt_or_ge (a + j) S.length with hk | hk
    · have := h (a + j) hk (by omega) (by omega)
      rw [List.getD_eq_getElem?_getD, List.getD_eq_getElem?_getD, List.getElem?_eq_getElem hk, List.getElem?_eq_getElem (by omega)] at this
      rw [List.getElem?_eq_getElem hk, List.getElem?_eq_getElem (by omega)]
      simpa using this
    · rw [List.getElem?_eq_none (by omega), List.getElem?_eq_none hk]
  · rw [List.getElem?_eq_none (by simp; omega), List.getElem?_eq_none (by simp; omega)]
theorem entry_alike {S T : List UInt8} {a b i : Nat} (h : Alike S T a b) (hb : b ≤ S.length - 5 * (i + 1)) : entryOf T i = entryOf S i := by
  unfold entryOf
  rw [h.1]
  exact cut_eq h.1 fun j hj h1 _ => h.2 j hj (.inr (by omega))
theorem begun_alike {S T : List UInt8} {a b i : Nat} (h : Alike S T a b) (hb : b ≤ S.length - 5 * (i + 1)) : Begun T i ↔ Begun S i := by
  unfold Begun
  rw [entry_alike h hb, h.1]
theorem read_end {S E : List UInt8} {r : List ByteArray} {e : Nat} {p : List ByteArray × Nat} (h : readOf S E r e = some p) : e ≤ p.2 ∧ (p = (r, e) ∨ entAt E + entMany E ≤ p.2) := by
  unfold readOf at h
  split at h
  · injection h with h; subst h; exact ⟨Nat.le_refl _, .inl rfl⟩
  · split at h
    · cases h
    · injection h with h; subst h
      exact ⟨Nat.le_max_left _ _, .inr (Nat.le_max_right _ _)⟩
theorem read_alike {S T E : List UInt8} {a b : Nat} {r : List ByteArray} {e : Nat} {p : List ByteArray × Nat} (h : Alike S T a b) (hr : readOf S E r e = some p) (ha : p.2 ≤ a) : readOf T E r e = some p := by
  unfold readOf at hr ⊢
  rw [h.1]
  split at hr
  · next h4 => rw [if_pos h4]; exact hr
  · next h4 =>
    rw [if_neg h4]
    split at hr
    · cases hr
    · next hb =>
      rw [if_neg hb]
      injection hr with hr
      subst hr
      have : cutOf T (entAt E) (entMany E) = cutOf S (entAt E) (entMany E) := by
        unfold cutOf
        rw [cut_eq h.1 fun j hj h1 h2 => h.2 j hj (.inl (by
          have := Nat.le_max_right e (entAt E + entMany E)
          simp only at ha; omega))]
      rw [this]
theorem scan_mono {S : List UInt8} : ∀ {n i : Nat} {r : List ByteArray} {e k : Nat} {r1 : List ByteArray} {e1 : Nat}, jscan S n i r e = some (k, r1, e1) → i ≤ k ∧ k ≤ i + n ∧ e ≤ e1 ∧ (5 * i ≤ S.length → 5 * k ≤ S.length) ∧ (S.length < 5 * (i + n + 1) → ¬ Begun S k)
  | 0, i, r, e, k, r1, e1, h => by
    simp only [jscan, Option.some.injEq, Prod.mk.injEq] at h
    obtain ⟨rfl, rfl, rfl⟩ := h
    exact ⟨Nat.le_refl _, Nat.le_refl _, Nat.le_refl _, fun h => h, fun h hb => by have := hb.1; omega⟩
  | n + 1, i, r, e, k, r1, e1, h => by
    rw [jscan_succ] at h
    split at h
    · next hb =>
      cases hr : readOf S (entryOf S i) r e with
      | none => rw [hr] at h; cases h
      | some p =>
        rw [hr] at h
        obtain ⟨h1, h2, h3, h4, h5⟩ := scan_mono (n := n) h
        have := (read_end hr).1
        exact ⟨by omega, by omega, by omega, fun _ => h4 hb.1, fun h => h5 (by omega)⟩
    · next hb =>
      injection h with h
      injection h with h1 h2
      injection h2 with h2 h3
      subst h1 h2 h3
      exact ⟨Nat.le_refl _, by omega, Nat.le_refl _, fun h => h, fun _ => hb⟩
theorem scan_alike {S T : List UInt8} {a b : Nat} (h : Alike S T a b) : ∀ {n i : Nat} {r : List ByteArray} {e k : Nat} {r1 : List ByteArray} {e1 : Nat} (m : Nat), jscan S n i r e = some (k, r1, e1) → e1 ≤ a → b ≤ S.length - 5 * k → k - i ≤ m → jscan T m i r e = jscan T (m - (k - i)) k r1 e1
  | 0, i, r, e, k, r1, e1, m, hs, _, _, _ => by
    simp only [jscan, Option.some.injEq, Prod.mk.injEq] at hs
    obtain ⟨rfl, rfl, rfl⟩ := hs
    rw [Nat.sub_self, Nat.sub_zero]
  | n + 1, i, r, e, k, r1, e1, m, hs, ha, hb, hm => by
    rw [jscan_succ] at hs
    split at hs
    · next hg =>
      cases hr : readOf S (entryOf S i) r e with
      | none => rw [hr] at hs; cases hs
      | some p =>
        rw [hr] at hs
        obtain ⟨h1, h2, h3, h4, h5⟩ := scan_mono hs
        have hbi : b ≤ S.length - 5 * (i + 1) := by omega
        cases m with
        | zero => omega
        | succ m =>
          rw [jscan_succ, if_pos ((begun_alike h hbi).2 hg), entry_alike h hbi, read_alike h hr (by omega)]
          have := scan_alike h (n := n) m hs ha hb (by omega)
          show jscan T m (i + 1) p.1 p.2 = _
          rw [this]
          congr 1; omega
    · injection hs with hs
      injection hs with h1 h2
      injection h2 with h2 h3
      subst h1 h2 h3
      rw [Nat.sub_self, Nat.sub_zero]

/-- what is loaded of a flash that is ours -/
structure Ours (S : List UInt8) (k : Nat) (r : List ByteArray) (e0 e : Nat) : Prop where
  scan : jscan S (S.length + 1) 0 [] 0 = some (k, r, e0)
  end_ : e = max e0 (usedN (S.take (S.length - 5 * k)))
theorem load_ours {S : List UInt8} {k : Nat} {r : List ByteArray} {e : Nat} (h : jload S = some (k, r, e)) : ∃ e0, Ours S k r e0 e := by
  unfold jload at h
  cases hs : jscan S (S.length + 1) 0 [] 0 with
  | none => rw [hs] at h; cases h
  | some p =>
    rw [hs] at h
    simp only [Option.some.injEq, Prod.mk.injEq] at h
    obtain ⟨rfl, rfl, rfl⟩ := h
    exact ⟨p.2.2, hs, rfl⟩
theorem Ours.load {S : List UInt8} {k : Nat} {r : List ByteArray} {e0 e : Nat} (h : Ours S k r e0 e) : jload S = some (k, r, e) := by
  unfold jload
  rw [h.scan, h.end_]
theorem Ours.many {S : List UInt8} {k : Nat} {r : List ByteArray} {e0 e : Nat} (h : Ours S k r e0 e) : 5 * k ≤ S.length := (scan_mono h.scan).2.2.2.1 (by omega)
theorem take_get {S : List UInt8} {n j : Nat} (h : j < n) : (S.take n).getD j 0 = S.getD j 0 := by
  rw [List.getD_eq_getElem?_getD, List.getElem?_take_of_lt h, List.getD_eq_getElem?_getD]
theorem Ours.free {S : List UInt8} {k : Nat} {r : List ByteArray} {e0 e : Nat} (h : Ours S k r e0 e) (j : Nat) (h1 : e ≤ j) (h2 : j < S.length - 5 * k) : S.getD j 0 = 255 := by
  have hu : usedN (S.take (S.length - 5 * k)) ≤ j := Nat.le_trans (h.end_ ▸ Nat.le_max_right _ _) h1
  have hl : (S.take (S.length - 5 * k)).length = S.length - 5 * k := by rw [List.length_take]; omega
  unfold usedN at hu
  rw [hl] at hu
  rw [← take_get h2]
  exact usedTo_spec _ _ j hu h2
theorem used_take_le {T : List UInt8} {n m : Nat} (h : ∀ j, m ≤ j → j < n → T.getD j 0 = 255) : usedN (T.take n) ≤ m := by
  unfold usedN
  refine usedTo_bound _ m _ fun j h1 h2 => ?_
  have : j < n := by rw [List.length_take] at h2; omega
  rw [take_get this]; exact h j h1 this

/-- another flash, that differs where the next record and its entry may lie alone: n bytes from e on, five ahead of the entries -/
structure Next (S T : List UInt8) (k e n : Nat) : Prop where
  len : T.length = S.length
  room : e + n + 5 + 5 * (k + 1) ≤ S.length
  same : ∀ j, j < S.length → (j < e ∨ (e + n ≤ j ∧ j < S.length - 5 * (k + 1)) ∨ S.length - 5 * k ≤ j) → T.getD j 0 = S.getD j 0
section
variable {S T : List UInt8} {k : Nat} {r : List ByteArray} {e0 e n : Nat}
theorem Next.alike (h : Next S T k e n) : Alike S T e (S.length - 5 * k) := ⟨h.len, fun j hj hh => h.same j hj (by omega)⟩
theorem Next.scan (h : Next S T k e n) (ho : Ours S k r e0 e) : jscan T (T.length + 1) 0 [] 0 = jscan T (S.length + 1 - k) k r e0 := by
  have := scan_alike h.alike (T.length + 1) ho.scan (ho.end_ ▸ Nat.le_max_left _ _) (Nat.le_refl _) (by have := ho.many; rw [h.len]; omega)
  rw [this, h.len]; rfl
theorem entry_get (S : List UInt8) (i j : Nat) (hj : j < 5) : (entryOf S i).getD j 0 = S.getD (S.length - 5 * (i + 1) + j) 0 := get_take_drop hj
theorem entry_len {S : List UInt8} {i : Nat} (h : 5 * (i + 1) ≤ S.length) : (entryOf S i).length = 5 := by unfold entryOf; rw [List.length_take, List.length_drop]; omega
/-- the entry behind is blank -/
theorem Next.stop (h : Next S T k e n) (ho : Ours S k r e0 e) : ¬ Begun T (k + 1) := by
  rintro ⟨h1, h2⟩
  apply h2
  have hr := h.room
  have hl := h.len
  refine used_blank.2 fun j hj => ?_
  rw [entry_len h1] at hj
  rw [entry_get _ _ _ hj, h.same _ (by omega) (by omega)]
  exact ho.free _ (by omega) (by omega)
/-- the new end, if the entry is no record's -/
theorem Next.used (h : Next S T k e n) (ho : Ours S k r e0 e) : usedN (T.take (T.length - 5 * (k + 1))) ≤ e + n := by
  have hr := h.room
  have hl := h.len
  refine used_take_le fun j h1 h2 => ?_
  rw [h.same j (by omega) (by omega)]
  exact ho.free j (by omega) (by omega)
/-- the record is not there -/
theorem Next.none (h : Next S T k e n) (ho : Ours S k r e0 e) (h4 : (entryOf T k).getD 4 0 ≠ 0) : ∃ k' e', jload T = some (k', r, e') ∧ k ≤ k' ∧ k' ≤ k + 1 ∧ e' ≤ e + n := by
  have hr := h.room
  have hl := h.len
  have hee : e0 ≤ e := ho.end_ ▸ Nat.le_max_left _ _
  have hs := h.scan ho
  obtain ⟨m, hm⟩ : ∃ m, S.length + 1 - k = m + 2 := ⟨S.length - 1 - k, by have := ho.many; omega⟩
  rw [hm, jscan_succ T (m + 1) k] at hs
  by_cases hb : Begun T k
  · rw [if_pos hb] at hs
    have hre : readOf T (entryOf T k) r e0 = some (r, e0) := by unfold readOf; rw [if_pos h4]
    rw [hre] at hs
    change _ = jscan T (m + 1) (k + 1) r e0 at hs
    rw [jscan_succ T m (k + 1), if_neg (h.stop ho)] at hs
    refine ⟨k + 1, max e0 (usedN (T.take (T.length - 5 * (k + 1)))), ?_, by omega, Nat.le_refl _, ?_⟩
    · unfold jload; rw [hs]
    · have := h.used ho; omega
  · rw [if_neg hb] at hs
    refine ⟨k, max e0 (usedN (T.take (T.length - 5 * k))), ?_, Nat.le_refl _, by omega, ?_⟩
    · unfold jload; rw [hs]
    · have hu : usedN (T.take (T.length - 5 * k)) ≤ e + n := by
        refine used_take_le fun j h1 h2 => ?_
        rcases Nat.lt_or_ge j (T.length - 5 * (k + 1)) with hj | hj
        · rw [h.same j (by omega) (by omega)]
          exact ho.free j (by omega) (by omega)
        · have hbl : usedN (entryOf T k) = 0 := by
            by_cases hz : usedN (entryOf T k) = 0
            · exact hz
            · exact absurd ⟨by omega, hz⟩ hb
          have := used_blank.1 hbl (j - (T.length - 5 * (k + 1))) (by rw [entry_len (by omega)]; omega)
          rw [entry_get _ _ _ (by omega)] at this
          rw [← this]; congr 1; omega
      omega
/-- the record is there, whole -/
theorem Next.whole (h : Next S T k e n) (ho : Ours S k r e0 e) (h4 : (entryOf T k).getD 4 0 = 0) (ha : entAt (entryOf T k) = e) (hn : entMany (entryOf T k) = n) (h1 : 1 ≤ n) (h8 : n ≤ 800) :
    jload T = some (k + 1, r ++ [cutOf T e n], e + n) := by
  have hr := h.room
  have hl := h.len
  have hee : e0 ≤ e := ho.end_ ▸ Nat.le_max_left _ _
  have hs := h.scan ho
  obtain ⟨m, hm⟩ : ∃ m, S.length + 1 - k = m + 2 := ⟨S.length - 1 - k, by have := ho.many; omega⟩
  rw [hm, jscan_succ T (m + 1) k] at hs
  have hb : Begun T k := ⟨by omega, fun hz => by
    have := used_blank.1 hz 4 (by rw [entry_len (by omega)]; omega)
    rw [h4] at this; exact absurd this (by decide)⟩
  have hre : readOf T (entryOf T k) r e0 = some (r ++ [cutOf T e n], max e0 (e + n)) := by
    unfold readOf
    rw [if_neg (by rw [h4]; exact fun h => h rfl), ha, hn, if_neg (by omega)]
  rw [if_pos hb, hre] at hs
  change _ = jscan T (m + 1) (k + 1) (r ++ [cutOf T e n]) (max e0 (e + n)) at hs
  rw [jscan_succ T m (k + 1), if_neg (h.stop ho)] at hs
  unfold jload
  rw [hs]
  have := h.used ho
  simp only
  congr 3
  omega
end

end Go.Proofs.Ytpmjgkngkaleeaa
