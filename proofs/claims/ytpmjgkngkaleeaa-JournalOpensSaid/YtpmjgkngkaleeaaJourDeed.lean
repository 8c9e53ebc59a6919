import Derived.Test.YtpmjgkngkaleeaaJourPure
/- Plain Lean: the deeds that put a record on a flash of ours; what a crash leaves of them (chapter L). -/
open Go
namespace Go.Proofs.Ytpmjgkngkaleeaa

/-- deeds that put bytes from a place on; those that stay 255 need none -/
def putD : Nat → List UInt8 → List Ded
  | _, [] => []
  | a, c :: l => if c = 255 then putD (a + 1) l else ⟨1, a, c.toNat⟩ :: putD (a + 1) l
def b8 (n : Nat) : UInt8 := UInt8.ofNat (n % 256)
def headB (e n : Nat) : List UInt8 := [b8 e, b8 (e / 256), b8 n, b8 (n / 256)]
def addD (e p : Nat) (s : List UInt8) : List Ded := putD e s ++ putD p (headB e s.length) ++ [⟨1, ((p + 4 : Nat) : Int), 0⟩]
theorem putD_append (a : Nat) (l : List UInt8) (c : UInt8) : putD a (l ++ [c]) = putD a l ++ (if c = 255 then [] else [⟨1, ((a + l.length : Nat) : Int), c.toNat⟩]) := by
  induction l generalizing a with
  | nil => simp [putD]
  | cons x l ih =>
    rw [List.cons_append]
    unfold putD
    have e : a + 1 + l.length = a + (x :: l).length := by rw [List.length_cons]; omega
    split
    · rw [ih, e]
    · rw [ih, e, List.cons_append]
/-- a deed that programs a byte from a on, n bytes -/
def Within (a n : Nat) (d : Ded) : Prop := d.kind = 1 ∧ (∃ p : Nat, d.at_ = p ∧ a ≤ p ∧ p < a + n) ∧ 0 ≤ d.value ∧ d.value ≤ 255
theorem Within.more {a n a' n' : Nat} {d : Ded} (h : Within a n d) (h1 : a' ≤ a) (h2 : a + n ≤ a' + n') : Within a' n' d := by
  obtain ⟨h3, ⟨p, h4, h5, h6⟩, h7⟩ := h
  exact ⟨h3, ⟨p, h4, by omega, by omega⟩, h7⟩
theorem putD_within : ∀ (a : Nat) (l : List UInt8) (d : Ded), d ∈ putD a l → Within a l.length d
  | _, [], _, h => by simp [putD] at h
  | a, c :: l, d, h => by
    unfold putD at h
    split at h
    · exact (putD_within (a + 1) l d h).more (by omega) (by rw [List.length_cons]; omega)
    · rcases List.mem_cons.1 h with rfl | h
      · have := c.toNat_lt
        exact ⟨rfl, ⟨a, rfl, Nat.le_refl _, by rw [List.length_cons]; omega⟩, by simp only; omega, by simp only; omega⟩
      · exact (putD_within (a + 1) l d h).more (by omega) (by rw [List.length_cons]; omega)
theorem Within.ok {a n m : Nat} {d : Ded} (h : Within a n d) (hm : a + n ≤ 128 * m) : dedErr m d = 0 := by
  obtain ⟨h1, ⟨p, h2, h3, h4⟩, h5, h6⟩ := h
  unfold dedErr
  rw [if_pos h1, if_pos ⟨by omega, by omega, h5, h6⟩]
/-- the bytes behind deeds that touch the byte not -/
theorem turned_out {f : List ByteArray} {d : Ded} (p : Nat → Nat) (hf : flErr f = 0) (hd : dedErr f.length d = 0) (hk : d.kind = 1) {j : Nat} (hj : j < 128 * f.length) (h : (j : Int) ≠ d.at_) : (flat (turned f d p)).getD j 0 = (flat f).getD j 0 := by
  rw [turned_byte p hf hd j hj, if_neg (fun h' => h h'.2), if_neg (by omega)]
theorem doneL_out : ∀ {l : List Ded} {f : List ByteArray}, flErr f = 0 → (∀ d ∈ l, dedErr f.length d = 0) → (∀ d ∈ l, d.kind = 1) → ∀ {j : Nat}, j < 128 * f.length → (∀ d ∈ l, (j : Int) ≠ d.at_) → (flat (doneL f l)).getD j 0 = (flat f).getD j 0
  | [], _, _, _, _, _, _, _ => rfl
  | d :: l, f, hf, hd, hk, j, hj, h => by
    have e : (done1 f d).length = f.length := turned_length ..
    have h0 := hd d (List.mem_cons_self ..)
    show (flat (doneL (turned f d fun _ => 255) l)).getD j 0 = _
    rw [doneL_out (turned_ok _ hf h0) (fun x hx => by rw [show (turned f d fun _ => 255).length = f.length from e]; exact hd x (List.mem_cons_of_mem _ hx)) (fun x hx => hk x (List.mem_cons_of_mem _ hx)) (by rw [show (turned f d fun _ => 255).length = f.length from e]; exact hj) (fun x hx => h x (List.mem_cons_of_mem _ hx))]
    exact turned_out _ hf h0 (hk d (List.mem_cons_self ..)) hj (h d (List.mem_cons_self ..))
/-- bytes put where all is 255 -/
theorem putD_bytes : ∀ (l : List UInt8) (a : Nat) (f : List ByteArray), flErr f = 0 → a + l.length ≤ 128 * f.length → (∀ j, a ≤ j → j < a + l.length → (flat f).getD j 0 = 255) → ∀ p, p < 128 * f.length →
    (flat (doneL f (putD a l))).getD p 0 = if a ≤ p ∧ p < a + l.length then l.getD (p - a) 0 else (flat f).getD p 0
  | [], a, f, _, _, _, p, _ => by
    show (flat f).getD p 0 = _
    rw [if_neg (by simp only [List.length_nil]; omega)]
  | c :: l, a, f, hf, hl, h, p, hp => by
    have hlen : (c :: l).length = l.length + 1 := rfl
    rw [hlen] at hl h ⊢
    unfold putD
    by_cases hc : c = 255
    · rw [if_pos hc, putD_bytes l (a + 1) f hf (by omega) (fun j h1 h2 => h j (by omega) (by omega)) p hp]
      by_cases h1 : a + 1 ≤ p ∧ p < a + 1 + l.length
      · rw [if_pos h1, if_pos (by omega), show p - a = p - (a + 1) + 1 by omega, List.getD_cons_succ]
      · rw [if_neg h1]
        by_cases h2 : p = a
        · rw [if_pos (by omega), h2, Nat.sub_self, List.getD_cons_zero, hc]; exact h a (Nat.le_refl _) (by omega)
        · rw [if_neg (by omega)]
    · rw [if_neg hc]
      obtain ⟨d, hd⟩ : ∃ d : Ded, d = ⟨1, a, c.toNat⟩ := ⟨_, rfl⟩
      rw [← hd]
      have c8 := c.toNat_lt
      have hdk : dedErr f.length d = 0 := by
        rw [hd]; unfold dedErr
        rw [if_pos rfl, if_pos ⟨by simp only; omega, by simp only; omega, by simp only; omega, by simp only; omega⟩]
      have e : (done1 f d).length = f.length := turned_length ..
      have hb : ∀ q, q < 128 * f.length → (flat (done1 f d)).getD q 0 = if q = a then c else (flat f).getD q 0 := fun q hq => by
        unfold done1
        rw [turned_byte _ hf hdk q hq, hd]
        by_cases hqa : q = a
        · rw [if_pos ⟨rfl, by simp only; omega⟩, if_pos hqa, turnB_whole _ _ (u8_lt_ _) (by simp only; omega), hqa, h a (Nat.le_refl _) (by omega)]
          show UInt8.ofNat (255 &&& ((c.toNat : Int)).toNat) = c
          rw [Int.toNat_natCast, Nat.and_comm, show (255 : Nat) = 2 ^ 8 - 1 from rfl, Nat.and_two_pow_sub_one_of_lt_two_pow c8]
          simp
        · rw [if_neg (by simp only; omega), if_neg (by simp only; omega), if_neg hqa]
      show (flat (doneL (done1 f d) (putD (a + 1) l))).getD p 0 = _
      rw [putD_bytes l (a + 1) (done1 f d) (turned_ok _ hf hdk) (by rw [e]; omega) (fun j h1 h2 => by rw [hb j (by omega), if_neg (by omega)]; exact h j (by omega) (by omega)) p (by rw [e]; exact hp), hb p hp]
      by_cases h1 : a + 1 ≤ p ∧ p < a + 1 + l.length
      · rw [if_pos h1, if_pos (by omega), show p - a = p - (a + 1) + 1 by omega, List.getD_cons_succ]
      · rw [if_neg h1]
        by_cases h2 : p = a
        · rw [if_pos h2, if_pos (by omega), h2, Nat.sub_self, List.getD_cons_zero]
        · rw [if_neg h2, if_neg (by omega)]

theorem two_b8 {n : Nat} (h : n < 65536) : two (b8 n) (b8 (n / 256)) = n := by
  unfold two b8
  rw [toNat_ofNat8 (by omega), toNat_ofNat8 (by omega)]
  omega
section
variable {f : List ByteArray} {k : Nat} {r : List ByteArray} {e0 e : Nat} {s : List UInt8}
/-- all that a record wants -/
structure Fits_ (f : List ByteArray) (k : Nat) (e : Nat) (s : List UInt8) : Prop where
  ok : flErr f = 0
  room : e + s.length + 5 + 5 * (k + 1) ≤ 128 * f.length
  one : 1 ≤ s.length
  most : s.length ≤ 800
def headD (f : List ByteArray) (k e : Nat) (s : List UInt8) : List Ded := putD e s ++ putD (128 * f.length - 5 * (k + 1)) (headB e s.length)
def lastD (f : List ByteArray) (k : Nat) : Ded := ⟨1, ((128 * f.length - 5 * (k + 1) + 4 : Nat) : Int), 0⟩
theorem addD_eq (f : List ByteArray) (k e : Nat) (s : List UInt8) : addD e (128 * f.length - 5 * (k + 1)) s = headD f k e s ++ [lastD f k] := rfl
/-- where a deed of them stands -/
def Touch (f : List ByteArray) (k e n : Nat) (d : Ded) : Prop := d.kind = 1 ∧ dedErr f.length d = 0 ∧ ∃ p : Nat, d.at_ = p ∧ ((e ≤ p ∧ p < e + n) ∨ (128 * f.length - 5 * (k + 1) ≤ p ∧ p < 128 * f.length - 5 * (k + 1) + 4))
theorem head_touch (h : Fits_ f k e s) : ∀ d ∈ headD f k e s, Touch f k e s.length d := by
  intro d hd
  have hr := h.room
  rcases List.mem_append.1 hd with hd | hd
  · have hw := putD_within _ _ _ hd
    have hv := hw
    obtain ⟨h1, ⟨p, h2, h3, h4⟩, _⟩ := hv
    exact ⟨h1, hw.ok (by omega), p, h2, .inl ⟨h3, h4⟩⟩
  · have hw := putD_within _ _ _ hd
    have hv := hw
    obtain ⟨h1, ⟨p, h2, h3, h4⟩, _⟩ := hv
    exact ⟨h1, hw.ok (by have : (headB e s.length).length = 4 := rfl; omega), p, h2, .inr ⟨h3, h4⟩⟩
theorem last_ok (h : Fits_ f k e s) : dedErr f.length (lastD f k) = 0 := by
  have hr := h.room
  unfold dedErr lastD
  rw [if_pos rfl, if_pos ⟨by simp only; omega, by simp only; omega, by simp only; omega, by simp only; omega⟩]
theorem addD_ok (h : Fits_ f k e s) : ∀ d ∈ addD e (128 * f.length - 5 * (k + 1)) s, dedErr f.length d = 0 := by
  intro d hd
  rw [addD_eq] at hd
  rcases List.mem_append.1 hd with hd | hd
  · exact (head_touch h d hd).2.1
  · rw [List.mem_singleton.1 hd]; exact last_ok h
/-- bytes behind some of the deeds ahead of the last one -/
theorem part_out (h : Fits_ f k e s) {l : List Ded} (hl : ∀ d ∈ l, d ∈ headD f k e s) {j : Nat} (hj : j < 128 * f.length) (h1 : ¬ (e ≤ j ∧ j < e + s.length)) (h2 : ¬ (128 * f.length - 5 * (k + 1) ≤ j ∧ j < 128 * f.length - 5 * (k + 1) + 4)) : (flat (doneL f l)).getD j 0 = (flat f).getD j 0 := by
  refine doneL_out h.ok (fun d hd => (head_touch h d (hl d hd)).2.1) (fun d hd => (head_touch h d (hl d hd)).1) hj fun d hd hje => ?_
  obtain ⟨_, _, p, hp, hh⟩ := head_touch h d (hl d hd)
  rw [hp] at hje
  omega
theorem part_ok (h : Fits_ f k e s) {l : List Ded} (hl : ∀ d ∈ l, d ∈ headD f k e s) : flErr (doneL f l) = 0 ∧ (doneL f l).length = f.length := doneL_ok h.ok fun d hd => (head_touch h d (hl d hd)).2.1
theorem flat_len {f : List ByteArray} (h : flErr f = 0) : (flat f).length = 128 * f.length := flat_length' (flErr_ok.1 h).2
/-- a flash of which bytes alone differ that the deeds touch -/
theorem next_of (h : Fits_ f k e s) {g : List ByteArray} (hg : flErr g = 0) (hgl : g.length = f.length) (hh : ∀ j, j < 128 * f.length → ¬ (e ≤ j ∧ j < e + s.length) → ¬ (128 * f.length - 5 * (k + 1) ≤ j ∧ j < 128 * f.length - 5 * k) → (flat g).getD j 0 = (flat f).getD j 0) : Next (flat f) (flat g) k e s.length := by
  have hr := h.room
  refine ⟨by rw [flat_len hg, flat_len h.ok, hgl], by rw [flat_len h.ok]; omega, fun j hj hc => ?_⟩
  rw [flat_len h.ok] at hj hc
  exact hh j hj (by omega) (by omega)
/-- the bytes when all deeds but the last are done -/
theorem head_bytes (h : Fits_ f k e s) (ho : Ours (flat f) k r e0 e) {j : Nat} (hj : j < 128 * f.length) :
    (flat (doneL f (headD f k e s))).getD j 0 = if e ≤ j ∧ j < e + s.length then s.getD (j - e) 0 else if 128 * f.length - 5 * (k + 1) ≤ j ∧ j < 128 * f.length - 5 * (k + 1) + 4 then (headB e s.length).getD (j - (128 * f.length - 5 * (k + 1))) 0 else (flat f).getD j 0 := by
  have hr := h.room
  have hfr := ho.free
  rw [flat_len h.ok] at hfr
  have hp1 : ∀ d ∈ putD e s, d ∈ headD f k e s := fun d hd => List.mem_append_left _ hd
  obtain ⟨o1, o2⟩ := part_ok h hp1
  have b1 := putD_bytes s e f h.ok (by omega) (fun j h1 h2 => hfr j h1 (by omega))
  unfold headD
  rw [doneL_append]
  have hq : (headB e s.length).length = 4 := rfl
  rw [putD_bytes (headB e s.length) (128 * f.length - 5 * (k + 1)) (doneL f (putD e s)) o1 (by rw [o2, hq]; omega) (fun q h1 h2 => by
    rw [hq] at h2
    rw [b1 q (by omega), if_neg (by omega)]; exact hfr q (by omega) (by omega)) j (by rw [o2]; exact hj), hq, b1 j hj]
  by_cases c1 : 128 * f.length - 5 * (k + 1) ≤ j ∧ j < 128 * f.length - 5 * (k + 1) + 4
  · rw [if_pos c1, if_neg (by omega), if_pos c1]
  · rw [if_neg c1]
    by_cases c2 : e ≤ j ∧ j < e + s.length
    · rw [if_pos c2, if_pos c2]
    · rw [if_neg c2, if_neg c2, if_neg c1]
/-- a flash behind the head of the deeds, whose last byte is what it is: the record is there if that byte is 0 -/
theorem head_last (h : Fits_ f k e s) (ho : Ours (flat f) k r e0 e) (p : Nat → Nat) (hp : (flat (turned (doneL f (headD f k e s)) (lastD f k) p)).getD (128 * f.length - 5 * (k + 1) + 4) 0 = 0) :
    jload (flat (turned (doneL f (headD f k e s)) (lastD f k) p)) = some (k + 1, r ++ [ofBytes s], e + s.length) := by
  have hr := h.room
  have h1 := h.one
  have h8 := h.most
  obtain ⟨o1, o2⟩ := part_ok h (l := headD f k e s) fun d hd => hd
  have hlo : dedErr (doneL f (headD f k e s)).length (lastD f k) = 0 := by rw [o2]; exact last_ok h
  obtain ⟨g, hg⟩ : ∃ g, g = turned (doneL f (headD f k e s)) (lastD f k) p := ⟨_, rfl⟩
  have hgo : flErr g = 0 := hg ▸ turned_ok p o1 hlo
  have hgl : g.length = f.length := by rw [hg, turned_length, o2]
  have hb : ∀ j, j < 128 * f.length → j ≠ 128 * f.length - 5 * (k + 1) + 4 → (flat g).getD j 0 = (flat (doneL f (headD f k e s))).getD j 0 := fun j hj hne => by
    rw [hg]; exact turned_out p o1 hlo rfl (by rw [o2]; exact hj) (by unfold lastD; simp only; omega)
  rw [← hg] at hp ⊢
  have hn : Next (flat f) (flat g) k e s.length := next_of h hgo hgl fun j hj c1 c2 => by
    rw [hb j hj (by omega), head_bytes h ho hj, if_neg c1, if_neg (by omega)]
  have hL : (flat g).length = 128 * f.length := by rw [flat_len hgo, hgl]
  have he5 : ∀ q, q < 5 → (entryOf (flat g) k).getD q 0 = (flat g).getD (128 * f.length - 5 * (k + 1) + q) 0 := fun q hq => by rw [entry_get _ _ _ hq, hL]
  have he4 : ∀ q, q < 4 → (entryOf (flat g) k).getD q 0 = (headB e s.length).getD q 0 := fun q hq => by
    rw [he5 q (by omega), hb _ (by omega) (by omega), head_bytes h ho (by omega), if_neg (by omega), if_pos (by omega), Nat.add_sub_cancel_left]
  have heS : 128 * f.length ≤ 4096 := by have := (flErr_ok.1 h.ok).1.2; omega
  have hw := hn.whole ho (by rw [he5 4 (by omega)]; exact hp)
    (by unfold entAt; rw [he4 0 (by omega), he4 1 (by omega)]; exact two_b8 (by omega))
    (by unfold entMany; rw [he4 2 (by omega), he4 3 (by omega)]; exact two_b8 (by omega)) h1 h8
  rw [hw]
  congr 4
  unfold cutOf
  refine congrArg (fun l => [ofBytes l]) ?_
  apply List.ext_getElem?
  intro j
  rcases Nat.lt_or_ge j s.length with hj | hj
  · have : ((flat g).drop e |>.take s.length).getD j 0 = s.getD j 0 := by
      rw [get_take_drop hj, hb _ (by omega) (by omega), head_bytes h ho (by omega), if_pos (by omega), Nat.add_sub_cancel_left]
    rw [List.getD_eq_getElem?_getD, List.getD_eq_getElem?_getD, List.getElem?_eq_getElem hj, List.getElem?_eq_getElem (by rw [List.length_take, List.length_drop]; omega)] at this
    rw [List.getElem?_eq_getElem hj, List.getElem?_eq_getElem (by rw [List.length_take, List.length_drop]; omega)]
    simpa using this
  · rw [List.getElem?_eq_none (by rw [List.length_take]; omega), List.getElem?_eq_none hj]
/-- all deeds done: the record is there -/
theorem all_done (h : Fits_ f k e s) (ho : Ours (flat f) k r e0 e) : jload (flat (doneL f (addD e (128 * f.length - 5 * (k + 1)) s))) = some (k + 1, r ++ [ofBytes s], e + s.length) := by
  have hr := h.room
  obtain ⟨o1, o2⟩ := part_ok h (l := headD f k e s) fun d hd => hd
  have hlo : dedErr (doneL f (headD f k e s)).length (lastD f k) = 0 := by rw [o2]; exact last_ok h
  rw [addD_eq, doneL_append]
  show jload (flat (turned (doneL f (headD f k e s)) (lastD f k) (fun _ => 255))) = _
  refine head_last h ho _ ?_
  rw [turned_byte _ o1 hlo _ (by rw [o2]; omega), if_pos ⟨rfl, rfl⟩, turnB_whole _ (lastD f k).value.toNat (u8_lt_ _) (show (0 : Int).toNat < 256 by decide)]
  show UInt8.ofNat (_ &&& (0 : Int).toNat) = 0
  simp
/-- a crash behind j deeds, the next one torn -/
theorem torn_crash (h : Fits_ f k e s) (ho : Ours (flat f) k r e0 e) (j : Nat) (d : Ded) (hd : (addD e (128 * f.length - 5 * (k + 1)) s)[j]? = some d) (p : Nat → Nat) :
    (∃ k' e', jload (flat (turned (doneL f ((addD e (128 * f.length - 5 * (k + 1)) s).take j)) d p)) = some (k', r, e') ∧ k' ≤ k + 1 ∧ e' ≤ e + s.length) ∨
    jload (flat (turned (doneL f ((addD e (128 * f.length - 5 * (k + 1)) s).take j)) d p)) = some (k + 1, r ++ [ofBytes s], e + s.length) := by
  have hr := h.room
  rw [addD_eq] at hd ⊢
  have hfr := ho.free
  rw [flat_len h.ok] at hfr
  rcases Nat.lt_or_ge j (headD f k e s).length with hj | hj
  · rw [List.getElem?_append_left hj] at hd
    have hdm : d ∈ headD f k e s := List.mem_of_getElem? hd
    rw [List.take_append_of_le_length (by omega)]
    have hsub : ∀ x ∈ (headD f k e s).take j, x ∈ headD f k e s := fun x hx => List.mem_of_mem_take hx
    obtain ⟨o1, o2⟩ := part_ok h hsub
    obtain ⟨t1, t2, q, t3, t4⟩ := head_touch h d hdm
    have hdo : dedErr (doneL f ((headD f k e s).take j)).length d = 0 := by rw [o2]; exact t2
    obtain ⟨g, hg⟩ : ∃ g, g = turned (doneL f ((headD f k e s).take j)) d p := ⟨_, rfl⟩
    have hgo : flErr g = 0 := hg ▸ turned_ok p o1 hdo
    have hgl : g.length = f.length := by rw [hg, turned_length, o2]
    have hb : ∀ j, j < 128 * f.length → ¬ (e ≤ j ∧ j < e + s.length) → ¬ (128 * f.length - 5 * (k + 1) ≤ j ∧ j < 128 * f.length - 5 * (k + 1) + 4) → (flat g).getD j 0 = (flat f).getD j 0 := fun i hi c1 c2 => by
      rw [hg, turned_out p o1 hdo t1 (by rw [o2]; exact hi) (by rw [t3]; omega)]
      exact part_out h hsub hi c1 c2
    rw [← hg]
    have hn : Next (flat f) (flat g) k e s.length := next_of h hgo hgl fun i hi c1 c2 => hb i hi c1 (by omega)
    obtain ⟨k', e', h1, _, h3, h4⟩ := hn.none ho (by
      rw [entry_get _ _ _ (by omega), flat_len hgo, hgl, hb _ (by omega) (by omega) (by omega), hfr _ (by omega) (by omega)]; decide)
    exact .inl ⟨k', e', h1, h3, h4⟩
  · obtain rfl : j = (headD f k e s).length := by
      rcases Nat.lt_or_ge j ((headD f k e s).length + 1) with h1 | h1
      · omega
      · rw [List.getElem?_eq_none (by rw [List.length_append]; exact h1)] at hd; cases hd
    rw [List.getElem?_append_right (Nat.le_refl _), Nat.sub_self] at hd
    obtain rfl : lastD f k = d := by simpa using hd
    rw [List.take_append_of_le_length (Nat.le_refl _), List.take_of_length_le (Nat.le_refl _)]
    by_cases hz : (flat (turned (doneL f (headD f k e s)) (lastD f k) p)).getD (128 * f.length - 5 * (k + 1) + 4) 0 = 0
    · exact .inr (head_last h ho p hz)
    · obtain ⟨o1, o2⟩ := part_ok h (l := headD f k e s) fun d hd => hd
      have hlo : dedErr (doneL f (headD f k e s)).length (lastD f k) = 0 := by rw [o2]; exact last_ok h
      obtain ⟨g, hg⟩ : ∃ g, g = turned (doneL f (headD f k e s)) (lastD f k) p := ⟨_, rfl⟩
      have hgo : flErr g = 0 := hg ▸ turned_ok p o1 hlo
      have hgl : g.length = f.length := by rw [hg, turned_length, o2]
      rw [← hg] at hz ⊢
      have hn : Next (flat f) (flat g) k e s.length := next_of h hgo hgl fun i hi c1 c2 => by
        rw [hg, turned_out p o1 hlo rfl (by rw [o2]; exact hi) (by unfold lastD; simp only; omega)]
        exact part_out h (fun d hd => hd) hi c1 (by omega)
      obtain ⟨k', e', h1, _, h3, h4⟩ := hn.none ho (by rw [entry_get _ _ _ (by omega), flat_len hgo, hgl]; exact hz)
      exact .inl ⟨k', e', h1, h3, h4⟩
/-- a crash behind j deeds -/
theorem clean_crash (h : Fits_ f k e s) (ho : Ours (flat f) k r e0 e) (j : Nat) (hj : j ≤ (headD f k e s).length) :
    ∃ k' e', jload (flat (doneL f ((addD e (128 * f.length - 5 * (k + 1)) s).take j))) = some (k', r, e') ∧ k' ≤ k + 1 ∧ e' ≤ e + s.length := by
  have hr := h.room
  have hfr := ho.free
  rw [flat_len h.ok] at hfr
  rw [addD_eq, List.take_append_of_le_length hj]
  have hsub : ∀ x ∈ (headD f k e s).take j, x ∈ headD f k e s := fun x hx => List.mem_of_mem_take hx
  obtain ⟨o1, o2⟩ := part_ok h hsub
  have hn : Next (flat f) (flat (doneL f ((headD f k e s).take j))) k e s.length := next_of h o1 o2 fun i hi c1 c2 => part_out h hsub hi c1 (by omega)
  obtain ⟨k', e', h1, _, h3, h4⟩ := hn.none ho (by
    rw [entry_get _ _ _ (by omega), flat_len o1, o2, part_out h hsub (by omega) (by omega) (by omega), hfr _ (by omega) (by omega)]; decide)
  exact ⟨k', e', h1, h3, h4⟩
end

theorem flat_blank (n j : Nat) (h : j < 128 * n) : (flat (List.replicate n blank)).getD j 0 = 255 := by
  rw [flat_byte (fun s hs => by rw [(List.mem_replicate.1 hs).2]; rfl) j (by rw [List.length_replicate]; exact h)]
  have hm : (List.replicate n blank).getD (j / 128) ⟨#[]⟩ = blank := by
    rw [List.getD_eq_getElem?_getD, List.getElem?_replicate, if_pos (by omega)]; rfl
  rw [hm]
  unfold blank
  rw [bytes_of]
  unfold blankB
  rw [List.getD_eq_getElem?_getD, List.getElem?_replicate, if_pos (by omega)]; rfl
/-- a flash that was formatted: no record -/
theorem load_blank (n : Nat) : jload (flat (List.replicate n blank)) = some (0, [], 0) := by
  have hl : (flat (List.replicate n blank)).length = 128 * n := by
    rw [flat_length' (fun s hs => by rw [(List.mem_replicate.1 hs).2]; rfl), List.length_replicate]
  have hb : ¬ Begun (flat (List.replicate n blank)) 0 := by
    rintro ⟨h1, h2⟩
    apply h2
    refine used_blank.2 fun j hj => ?_
    rw [entry_len h1] at hj
    rw [entry_get _ _ _ hj]
    exact flat_blank n _ (by omega)
  unfold jload
  rw [jscan_succ, if_neg hb]
  have : usedN ((flat (List.replicate n blank)).take ((flat (List.replicate n blank)).length - 5 * 0)) ≤ 0 := used_take_le fun j _ h2 => flat_blank n j (by omega)
  simp only
  congr 3
  omega
/-- what is wrong with a record that is to be put there -/
def addErr (S : List UInt8) (n : Nat) : Int := match jload S with | none => 4 | some p => if S.length < p.2.2 + n + 5 + 5 * (p.1 + 1) then 8 else 0
def appErr (f : List ByteArray) (n : Nat) : Int := if flErr f = 0 then (if n = 0 then 1 else if 800 < n then 2 else addErr (flat f) n) else flErr f
def openErr (f : List ByteArray) : Int := if flErr f = 0 then (match jload (flat f) with | none => 4 | some _ => 0) else flErr f
def openRecs (f : List ByteArray) : List ByteArray := if flErr f = 0 then (match jload (flat f) with | none => [] | some p => p.2.1) else []
def appDeeds (f : List ByteArray) (s : List UInt8) : List Ded := match jload (flat f) with | none => [] | some p => addD p.2.2 (128 * f.length - 5 * (p.1 + 1)) s
theorem app_fits {f : List ByteArray} {s : List UInt8} (h : appErr f s.length = 0) : ∃ k r e0 e, Ours (flat f) k r e0 e ∧ Fits_ f k e s ∧ appDeeds f s = addD e (128 * f.length - 5 * (k + 1)) s := by
  unfold appErr at h
  have hf : flErr f = 0 := by
    by_cases h0 : flErr f = 0
    · exact h0
    · rw [if_neg h0] at h; exact h
  rw [if_pos hf] at h
  have h1 : ¬ s.length = 0 := fun h1 => by rw [if_pos h1] at h; cases h
  rw [if_neg h1] at h
  have h8 : ¬ 800 < s.length := fun h8 => by rw [if_pos h8] at h; cases h
  rw [if_neg h8] at h
  unfold addErr at h
  unfold appDeeds
  cases hj : jload (flat f) with
  | none => rw [hj] at h; cases h
  | some p =>
    rw [hj] at h
    obtain ⟨e0, ho⟩ := load_ours hj
    simp only at h
    refine ⟨p.1, p.2.1, e0, p.2.2, ho, ⟨hf, ?_, by omega, by omega⟩, rfl⟩
    rw [← flat_len hf]
    by_cases hr : (flat f).length < p.2.2 + s.length + 5 + 5 * (p.1 + 1)
    · rw [if_pos hr] at h; cases h
    · omega

end Go.Proofs.Ytpmjgkngkaleeaa
