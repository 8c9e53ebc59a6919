import Derived.Test.YtpmjgkngkaleeaaBase
/- Plain Lean: flashes, deeds, bytes bit by bit (chapter K). No program in sight. -/
open Go
namespace Go.Proofs.Ytpmjgkngkaleeaa

/-- the bytes of a: where p has a bit; of b elsewhere -/
def mixN (a b p : Nat) : Nat :=
  (if p / 1 % 2 = 1 then a / 1 % 2 else b / 1 % 2) * 1 + (if p / 2 % 2 = 1 then a / 2 % 2 else b / 2 % 2) * 2 + (if p / 4 % 2 = 1 then a / 4 % 2 else b / 4 % 2) * 4 + (if p / 8 % 2 = 1 then a / 8 % 2 else b / 8 % 2) * 8 + (if p / 16 % 2 = 1 then a / 16 % 2 else b / 16 % 2) * 16 + (if p / 32 % 2 = 1 then a / 32 % 2 else b / 32 % 2) * 32 + (if p / 64 % 2 = 1 then a / 64 % 2 else b / 64 % 2) * 64 + (if p / 128 % 2 = 1 then a / 128 % 2 else b / 128 % 2) * 128
def mixB (a b p : Nat) : Nat := (a &&& p) ||| (b &&& (255 - p))
theorem not_bit (p i : Nat) (hp : p < 256) (hi : i < 8) : (255 - p).testBit i = !p.testBit i := by
  have := Nat.testBit_two_pow_sub_succ (n := 8) (x := p) (by omega) i
  rw [show (2 : Nat) ^ 8 - (p + 1) = 255 - p by omega] at this
  rw [this]; simp [hi]
theorem mixB_bit (a b p i : Nat) (hp : p < 256) (hi : i < 8) : (mixB a b p).testBit i = if p.testBit i then a.testBit i else b.testBit i := by
  unfold mixB
  rw [Nat.testBit_or, Nat.testBit_and, Nat.testBit_and, not_bit p i hp hi]
  cases p.testBit i <;> simp
theorem bit_div (a i : Nat) : a / 2 ^ i % 2 = (a.testBit i).toNat := (Nat.toNat_testBit a i).symm
theorem mixB_lt (a b p : Nat) (ha : a < 256) (hb : b < 256) : mixB a b p < 256 := by
  have h1 : a &&& p < 2 ^ 8 := Nat.lt_of_le_of_lt Nat.and_le_left ha
  have h2 : b &&& (255 - p) < 2 ^ 8 := Nat.lt_of_le_of_lt Nat.and_le_left hb
  exact Nat.or_lt_two_pow h1 h2
theorem mix_at (a b p i : Nat) (hp : p < 256) (hi : i < 8) : (if p / 2 ^ i % 2 = 1 then a / 2 ^ i % 2 else b / 2 ^ i % 2) = mixB a b p / 2 ^ i % 2 := by
  rw [bit_div, bit_div, bit_div, bit_div, mixB_bit a b p i hp hi]
  cases p.testBit i <;> simp
theorem mixN_eq (a b p : Nat) (ha : a < 256) (hb : b < 256) (hp : p < 256) : mixN a b p = mixB a b p := by
  have h0 := mix_at a b p 0 hp (by omega)
  have h1 := mix_at a b p 1 hp (by omega)
  have h2 := mix_at a b p 2 hp (by omega)
  have h3 := mix_at a b p 3 hp (by omega)
  have h4 := mix_at a b p 4 hp (by omega)
  have h5 := mix_at a b p 5 hp (by omega)
  have h6 := mix_at a b p 6 hp (by omega)
  have h7 := mix_at a b p 7 hp (by omega)
  simp only [Nat.reducePow] at h0 h1 h2 h3 h4 h5 h6 h7
  unfold mixN
  rw [h0, h1, h2, h3, h4, h5, h6, h7]
  have := mixB_lt a b p ha hb
  omega
/-- two bytes are one if their bits are -/
theorem byte_ext {a b : Nat} (ha : a < 256) (hb : b < 256) (h : ∀ i, i < 8 → a.testBit i = b.testBit i) : a = b := by
  apply Nat.eq_of_testBit_eq
  intro i
  rcases Nat.lt_or_ge i 8 with hi | hi
  · exact h i hi
  · have hp : 256 ≤ 2 ^ i := Nat.pow_le_pow_right (n := 2) (by omega) hi
    rw [Nat.testBit_lt_two_pow (Nat.lt_of_lt_of_le ha hp), Nat.testBit_lt_two_pow (Nat.lt_of_lt_of_le hb hp)]
/-- what a byte becomes that is programmed, of whose bits those are turned that p says -/
def turnB (a v p : Nat) : Nat := a &&& (255 - ((a &&& (255 - v)) &&& p))
theorem and_lt {a b : Nat} (ha : a < 256) : a &&& b < 256 := Nat.lt_of_le_of_lt Nat.and_le_left ha
theorem turnB_lt {a v p : Nat} (ha : a < 256) : turnB a v p < 256 := and_lt ha
theorem turnB_bit (a v p i : Nat) (ha : a < 256) (hv : v < 256) (hi : i < 8) : (turnB a v p).testBit i = (a.testBit i && (v.testBit i || !p.testBit i)) := by
  unfold turnB
  rw [Nat.testBit_and, not_bit _ i (and_lt (and_lt ha)) hi, Nat.testBit_and, Nat.testBit_and, not_bit v i hv hi]
  cases a.testBit i <;> cases v.testBit i <;> cases p.testBit i <;> rfl
theorem turnB_whole (a v : Nat) (ha : a < 256) (hv : v < 256) : turnB a v 255 = a &&& v := by
  refine byte_ext (turnB_lt ha) (and_lt ha) fun i hi => ?_
  rw [turnB_bit a v 255 i ha hv hi, Nat.testBit_and]
  have : (255 : Nat).testBit i = true := by
    rw [show (255 : Nat) = 2 ^ 8 - 1 from rfl, Nat.testBit_two_pow_sub_one]; simp [hi]
  rw [this]; simp
theorem both_eq (a v : Nat) (ha : a < 256) (hv : v < 256) : mixB v 0 a = a &&& v := by
  refine byte_ext (mixB_lt _ _ _ hv (by omega)) (and_lt ha) fun i hi => ?_
  rw [mixB_bit v 0 a i ha hi, Nat.testBit_and]
  cases a.testBit i <;> simp
theorem torn_prog (a v q : Nat) (ha : a < 256) (hv : v < 256) (hq : q < 256) : mixB a (a &&& v) q = turnB a v (255 - q) := by
  refine byte_ext (mixB_lt _ _ _ ha (and_lt ha)) (turnB_lt ha) fun i hi => ?_
  rw [mixB_bit _ _ _ i hq hi, turnB_bit a v _ i ha hv hi, not_bit q i hq hi, Nat.testBit_and]
  cases a.testBit i <;> cases v.testBit i <;> cases q.testBit i <;> rfl
theorem torn_erase (a q : Nat) (ha : a < 256) (hq : q < 256) : mixB a 255 (255 - q) = a ||| q := by
  refine byte_ext (mixB_lt _ _ _ ha (by omega)) (Nat.or_lt_two_pow (n := 8) ha hq) fun i hi => ?_
  rw [mixB_bit _ _ _ i (by omega) hi, not_bit q i hq hi, Nat.testBit_or]
  have : (255 : Nat).testBit i = true := by
    rw [show (255 : Nat) = 2 ^ 8 - 1 from rfl, Nat.testBit_two_pow_sub_one]; simp [hi]
  rw [this]
  cases a.testBit i <;> cases q.testBit i <;> rfl
theorem mix_self (a b : Nat) (ha : a < 256) (hb : b < 256) : mixB a b 255 = a := by
  refine byte_ext (mixB_lt _ _ _ ha hb) ha fun i hi => ?_
  rw [mixB_bit _ _ _ i (by omega) hi]
  have : (255 : Nat).testBit i = true := by
    rw [show (255 : Nat) = 2 ^ 8 - 1 from rfl, Nat.testBit_two_pow_sub_one]; simp [hi]
  rw [this]; rfl
theorem turnB_none (a v : Nat) (ha : a < 256) (hv : v < 256) : turnB a v 0 = a := by
  refine byte_ext (turnB_lt ha) ha fun i hi => ?_
  rw [turnB_bit a v _ i ha hv hi]; simp
theorem mix_same (a p : Nat) (ha : a < 256) (hp : p < 256) : mixB a a p = a := by
  refine byte_ext (mixB_lt _ _ _ ha ha) ha fun i hi => ?_
  rw [mixB_bit _ _ _ i hp hi]; simp
theorem or_255 (a : Nat) (ha : a < 256) : a ||| 255 = 255 := by
  refine byte_ext (Nat.or_lt_two_pow (n := 8) ha (by omega)) (by omega) fun i hi => ?_
  rw [Nat.testBit_or]
  have : (255 : Nat).testBit i = true := by
    rw [show (255 : Nat) = 2 ^ 8 - 1 from rfl, Nat.testBit_two_pow_sub_one]; simp [hi]
  rw [this]; simp
/-- programmed is never a bit from 0 to 1 -/
theorem or_turn (a v p : Nat) (ha : a < 256) : a ||| turnB a v p = a := by
  refine byte_ext (Nat.or_lt_two_pow (n := 8) ha (turnB_lt ha)) ha fun i hi => ?_
  unfold turnB
  rw [Nat.testBit_or, Nat.testBit_and]
  cases a.testBit i <;> simp
/-- torn, then whole: whole -/
theorem turn_whole (a v p : Nat) (ha : a < 256) (hv : v < 256) : turnB (turnB a v p) v 255 = turnB a v 255 := by
  refine byte_ext (turnB_lt (turnB_lt ha)) (turnB_lt ha) fun i hi => ?_
  rw [turnB_bit _ v _ i (turnB_lt ha) hv hi, turnB_bit a v _ i ha hv hi, turnB_bit a v _ i ha hv hi]
  have : (255 : Nat).testBit i = true := by
    rw [show (255 : Nat) = 2 ^ 8 - 1 from rfl, Nat.testBit_two_pow_sub_one]; simp [hi]
  rw [this]
  cases a.testBit i <;> cases v.testBit i <;> cases p.testBit i <;> rfl

structure Ded where
  kind : Int
  at_ : Int
  value : Int
/-- what is wrong with a flash of these blocks -/
def flErr (l : List ByteArray) : Int := if 1 ≤ l.length ∧ l.length ≤ 32 then (if ∀ s ∈ l, s.size = 128 then 0 else 1) else 3
def dedErr (n : Nat) (d : Ded) : Int :=
  if d.kind = 1 then (if 0 ≤ d.at_ ∧ d.at_ < n * 128 ∧ 0 ≤ d.value ∧ d.value ≤ 255 then 0 else 3)
  else if d.kind = 2 then (if 0 ≤ d.at_ ∧ d.at_ < n ∧ d.value = 0 then 0 else 3)
  else 7
def firstErr (n : Nat) : List Ded → Int
  | [] => 0
  | d :: l => if dedErr n d = 0 then firstErr n l else dedErr n d
def dedsErr (f : List ByteArray) (l : List Ded) : Int := if flErr f = 0 then firstErr f.length l else flErr f
def bytesOf (s : ByteArray) : List UInt8 := s.data.toList
def ofBytes (l : List UInt8) : ByteArray := ⟨l.toArray⟩
theorem bytes_of (l : List UInt8) : bytesOf (ofBytes l) = l := by simp [bytesOf, ofBytes]
theorem of_bytes (s : ByteArray) : ofBytes (bytesOf s) = s := by cases s; simp [bytesOf, ofBytes]
theorem bytes_length (s : ByteArray) : (bytesOf s).length = s.size := Array.length_toList
theorem ofBytes_size (l : List UInt8) : (ofBytes l).size = l.length := by simp [ofBytes, ByteArray.size]
theorem bytes_inj {a b : ByteArray} (h : bytesOf a = bytesOf b) : a = b := by rw [← of_bytes a, h, of_bytes]
def blankB : List UInt8 := List.replicate 128 255
def blank : ByteArray := ofBytes blankB
/-- bytes of which one is programmed, as far as p says -/
def progB (l : List UInt8) (i v p : Nat) : List UInt8 := l.set i (UInt8.ofNat (turnB (l.getD i 0).toNat v p))
/-- bytes that are erased, as far as do says -/
def eraseB (l : List UInt8) (p : Nat → Nat) : List UInt8 := l.mapIdx fun i x => UInt8.ofNat (x.toNat ||| p i)
def turned (f : List ByteArray) (d : Ded) (p : Nat → Nat) : List ByteArray :=
  if d.kind = 1 then f.set (d.at_ / 128).toNat (ofBytes (progB (bytesOf (f.getD (d.at_ / 128).toNat ⟨#[]⟩)) (d.at_ % 128).toNat d.value.toNat (p 0)))
  else f.set d.at_.toNat (ofBytes (eraseB (bytesOf (f.getD d.at_.toNat ⟨#[]⟩)) p))
def done1 (f : List ByteArray) (d : Ded) : List ByteArray := turned f d (fun _ => 255)
def doneL (f : List ByteArray) (l : List Ded) : List ByteArray := l.foldl done1 f
/-- which bits are turned -/
def tornP (d : Ded) (part : List UInt8) (i : Nat) : Nat :=
  if d.kind = 2 ∧ i < part.length then (part.getD i 0).toNat else if d.kind = 1 ∧ part ≠ [] then 255 - (part.getD 0 0).toNat else 0
def tornL (f : List ByteArray) (d : Ded) (part : List UInt8) : List ByteArray := turned f d (tornP d part)
def flat (f : List ByteArray) : List UInt8 := f.flatMap bytesOf

theorem turned_length (f : List ByteArray) (d : Ded) (p : Nat → Nat) : (turned f d p).length = f.length := by
  unfold turned; split <;> simp
theorem progB_length (l : List UInt8) (i v p : Nat) : (progB l i v p).length = l.length := by simp [progB]
theorem eraseB_length (l : List UInt8) (p : Nat → Nat) : (eraseB l p).length = l.length := by simp [eraseB]
theorem mem_set {α : Type} {l : List α} {i : Nat} {x y : α} (h : y ∈ l.set i x) : y = x ∨ y ∈ l := by
  rcases List.mem_or_eq_of_mem_set h with h | h
  · exact .inr h
  · exact .inl h
theorem getD_mem {f : List ByteArray} {i : Nat} (h : i < f.length) : f.getD i ⟨#[]⟩ ∈ f := by
  rw [List.getD_eq_getElem?_getD, List.getElem?_eq_getElem h]; simp
theorem ded_place {n : Nat} {d : Ded} (h : dedErr n d = 0) : (d.kind = 1 ∧ (d.at_ / 128).toNat < n ∧ (d.at_ % 128).toNat < 128 ∧ 0 ≤ d.at_ ∧ 0 ≤ d.value ∧ d.value ≤ 255) ∨ (d.kind = 2 ∧ d.at_.toNat < n ∧ 0 ≤ d.at_ ∧ d.value = 0) := by
  unfold dedErr at h
  split at h
  · next hk =>
    split at h
    · next hr => exact .inl ⟨hk, by omega, by omega, by omega, by omega, by omega⟩
    · cases h
  · split at h
    · next hk =>
      split at h
      · next hr => exact .inr ⟨hk, by omega, by omega, by omega⟩
      · cases h
    · cases h
theorem flErr_ok {f : List ByteArray} : flErr f = 0 ↔ (1 ≤ f.length ∧ f.length ≤ 32) ∧ ∀ s ∈ f, s.size = 128 := by
  unfold flErr
  constructor
  · intro h
    split at h
    · next h1 =>
      split at h
      · next h2 => exact ⟨h1, h2⟩
      · cases h
    · cases h
  · rintro ⟨h1, h2⟩
    rw [if_pos h1, if_pos h2]
theorem turned_ok {f : List ByteArray} {d : Ded} (p : Nat → Nat) (hf : flErr f = 0) (hd : dedErr f.length d = 0) : flErr (turned f d p) = 0 := by
  obtain ⟨h1, h2⟩ := flErr_ok.1 hf
  refine flErr_ok.2 ⟨by rw [turned_length]; exact h1, fun s hs => ?_⟩
  unfold turned at hs
  rcases ded_place hd with ⟨hk, hn, _⟩ | ⟨hk, hn, _⟩
  · rw [if_pos hk] at hs
    rcases mem_set hs with rfl | h
    · rw [ofBytes_size, progB_length, bytes_length]; exact h2 _ (getD_mem hn)
    · exact h2 _ h
  · rw [if_neg (by omega)] at hs
    rcases mem_set hs with rfl | h
    · rw [ofBytes_size, eraseB_length, bytes_length]; exact h2 _ (getD_mem hn)
    · exact h2 _ h
theorem firstErr_ok {n : Nat} : ∀ {l : List Ded}, firstErr n l = 0 ↔ ∀ d ∈ l, dedErr n d = 0
  | [] => by simp [firstErr]
  | d :: l => by
    unfold firstErr
    constructor
    · intro h
      split at h
      · next h1 => intro x hx; rcases List.mem_cons.1 hx with rfl | hx; (exact h1); (exact firstErr_ok.1 h x hx)
      · next h1 => exact absurd h h1
    · intro h
      rw [if_pos (h d (List.mem_cons_self ..))]
      exact firstErr_ok.2 fun x hx => h x (List.mem_cons_of_mem _ hx)
theorem dedsErr_ok {f : List ByteArray} {l : List Ded} : dedsErr f l = 0 ↔ flErr f = 0 ∧ ∀ d ∈ l, dedErr f.length d = 0 := by
  unfold dedsErr
  constructor
  · intro h
    split at h
    · next h1 => exact ⟨h1, firstErr_ok.1 h⟩
    · next h1 => exact absurd h h1
  · rintro ⟨h1, h2⟩
    rw [if_pos h1]; exact firstErr_ok.2 h2
theorem doneL_ok : ∀ {l : List Ded} {f : List ByteArray}, flErr f = 0 → (∀ d ∈ l, dedErr f.length d = 0) → flErr (doneL f l) = 0 ∧ (doneL f l).length = f.length
  | [], f, h, _ => ⟨h, rfl⟩
  | d :: l, f, h, hd => by
    have e : (done1 f d).length = f.length := turned_length ..
    have := doneL_ok (l := l) (turned_ok (fun _ => 255) h (hd d (List.mem_cons_self ..))) fun x hx => by
      show dedErr (done1 f d).length x = 0
      rw [e]; exact hd x (List.mem_cons_of_mem _ hx)
    exact ⟨this.1, this.2.trans e⟩
theorem doneL_append (f : List ByteArray) (a b : List Ded) : doneL f (a ++ b) = doneL (doneL f a) b := List.foldl_append ..
/-! The document's words for it. -/
def doneRef (f : List ByteArray) (d : Ded) : List ByteArray :=
  if d.kind = 2 then f.set d.at_.toNat blank
  else f.set (d.at_ / 128).toNat (ofBytes ((bytesOf (f.getD (d.at_ / 128).toNat ⟨#[]⟩)).set (d.at_ % 128).toNat (UInt8.ofNat (((bytesOf (f.getD (d.at_ / 128).toNat ⟨#[]⟩)).getD (d.at_ % 128).toNat 0).toNat &&& d.value.toNat))))
theorem u8_lt_ (x : UInt8) : x.toNat < 256 := x.toNat_lt
theorem erase_whole {l : List UInt8} (h : l.length = 128) : eraseB l (fun _ => 255) = blankB := by
  unfold eraseB blankB
  apply List.ext_getElem
  · simp [h]
  · intro i h1 h2
    simp only [List.getElem_mapIdx, List.getElem_replicate]
    rw [or_255 _ (u8_lt_ _)]; rfl
theorem done_ref {f : List ByteArray} {d : Ded} (hf : flErr f = 0) (hd : dedErr f.length d = 0) : done1 f d = doneRef f d := by
  obtain ⟨_, h2⟩ := flErr_ok.1 hf
  unfold done1 turned doneRef
  rcases ded_place hd with ⟨hk, hn, _, _, hv0, hv⟩ | ⟨hk, hn, _⟩
  · rw [if_pos hk, if_neg (by omega)]
    unfold progB
    rw [turnB_whole _ _ (u8_lt_ _) (by omega)]
  · rw [if_neg (by omega), if_pos hk, erase_whole (by rw [bytes_length]; exact h2 _ (getD_mem hn))]
    rfl
def keepP (d : Ded) (part : List UInt8) (i : Nat) : Nat :=
  if d.kind = 2 ∧ i < part.length then 255 - (part.getD i 0).toNat else if d.kind = 1 ∧ part ≠ [] then (part.getD 0 0).toNat else 255
def deedPos (d : Ded) : Nat := if d.kind = 2 then d.at_.toNat else (d.at_ / 128).toNat
def deedNew (f : List ByteArray) (d : Ded) : List UInt8 :=
  if d.kind = 2 then blankB else (bytesOf (f.getD (d.at_ / 128).toNat ⟨#[]⟩)).set (d.at_ % 128).toNat (UInt8.ofNat (((bytesOf (f.getD (d.at_ / 128).toNat ⟨#[]⟩)).getD (d.at_ % 128).toNat 0).toNat &&& d.value.toNat))
theorem doneRef_eq (f : List ByteArray) (d : Ded) : doneRef f d = f.set (deedPos d) (ofBytes (deedNew f d)) := by
  unfold doneRef deedPos deedNew
  by_cases h : d.kind = 2
  · rw [if_pos h, if_pos h, if_pos h]; rfl
  · rw [if_neg h, if_neg h, if_neg h]
def mixL (was b : List UInt8) (keep : Nat → Nat) : List UInt8 := b.mapIdx fun i x => UInt8.ofNat (mixB (was.getD i 0).toNat x.toNat (keep i))
def tornRef (f : List ByteArray) (d : Ded) (part : List UInt8) : List ByteArray := f.set (deedPos d) (ofBytes (mixL (bytesOf (f.getD (deedPos d) ⟨#[]⟩)) (deedNew f d) (keepP d part)))
theorem ofNat_toNat8 (x : UInt8) : UInt8.ofNat x.toNat = x := by simp
theorem toNat_ofNat8 {n : Nat} (h : n < 256) : (UInt8.ofNat n).toNat = n := by simp; omega
theorem getD_lt {l : List UInt8} {i : Nat} (h : i < l.length) : l.getD i 0 = l[i] := by rw [List.getD_eq_getElem?_getD, List.getElem?_eq_getElem h]; rfl
theorem keepP_lt (d : Ded) (part : List UInt8) (i : Nat) : keepP d part i < 256 := by
  unfold keepP
  have := u8_lt_ (part.getD 0 0)
  split
  · omega
  · split <;> omega
theorem tornP_prog {d : Ded} (hk : d.kind = 1) (part : List UInt8) (i : Nat) : tornP d part i = if part = [] then 0 else 255 - (part.getD 0 0).toNat := by
  unfold tornP
  rw [if_neg (show ¬ (d.kind = 2 ∧ i < part.length) by omega)]
  by_cases hp : part = []
  · rw [if_neg (by simp [hp]), if_pos hp]
  · rw [if_pos ⟨hk, hp⟩, if_neg hp]
theorem keepP_prog {d : Ded} (hk : d.kind = 1) (part : List UInt8) (i : Nat) : keepP d part i = if part = [] then 255 else (part.getD 0 0).toNat := by
  unfold keepP
  rw [if_neg (show ¬ (d.kind = 2 ∧ i < part.length) by omega)]
  by_cases hp : part = []
  · rw [if_neg (by simp [hp]), if_pos hp]
  · rw [if_pos ⟨hk, hp⟩, if_neg hp]
theorem tornP_erase {d : Ded} (hk : d.kind = 2) (part : List UInt8) (i : Nat) : tornP d part i = if i < part.length then (part.getD i 0).toNat else 0 := by
  unfold tornP
  by_cases hp : i < part.length
  · rw [if_pos ⟨hk, hp⟩, if_pos hp]
  · rw [if_neg (by omega), if_neg (by omega), if_neg hp]
theorem keepP_erase {d : Ded} (hk : d.kind = 2) (part : List UInt8) (i : Nat) : keepP d part i = if i < part.length then 255 - (part.getD i 0).toNat else 255 := by
  unfold keepP
  by_cases hp : i < part.length
  · rw [if_pos ⟨hk, hp⟩, if_pos hp]
  · rw [if_neg (by omega), if_neg (by omega), if_neg hp]
theorem getD_set_ne {l : List UInt8} {i j : Nat} (h : i ≠ j) (x : UInt8) : (l.set i x).getD j 0 = l.getD j 0 := by
  rw [List.getD_eq_getElem?_getD, List.getElem?_set_ne h, List.getD_eq_getElem?_getD]
theorem getD_mapIdx {l : List UInt8} {j : Nat} (g : Nat → UInt8 → UInt8) (h : j < l.length) : (l.mapIdx g).getD j 0 = g j (l.getD j 0) := by
  rw [getD_lt (by simpa using h), getD_lt h]; simp
set_option maxRecDepth 10000 in
theorem torn_ref {f : List ByteArray} {d : Ded} (part : List UInt8) (hf : flErr f = 0) (hd : dedErr f.length d = 0) : tornL f d part = tornRef f d part := by
  obtain ⟨_, h2⟩ := flErr_ok.1 hf
  unfold tornL turned tornRef deedPos deedNew
  rcases ded_place hd with ⟨hk, hn, hi, _, hv0, hv⟩ | ⟨hk, hn, _⟩
  · have hk2 : ¬ d.kind = 2 := by omega
    simp only [if_pos hk, if_neg hk2]
    congr 2
    obtain ⟨b, hb⟩ : ∃ b, b = bytesOf (f.getD (d.at_ / 128).toNat ⟨#[]⟩) := ⟨_, rfl⟩
    have hl : b.length = 128 := by rw [hb, bytes_length]; exact h2 _ (getD_mem hn)
    rw [← hb]
    unfold progB mixL
    obtain ⟨i, hi2⟩ : ∃ i, i = (d.at_ % 128).toNat := ⟨_, rfl⟩
    rw [← hi2]
    apply List.ext_getElem
    · simp
    · intro j h1 h3
      simp only [List.getElem_mapIdx]
      have hjl : j < b.length := by simpa using h1
      have hbj := u8_lt_ (b.getD j 0)
      by_cases hij : i = j
      · subst hij
        rw [List.getElem_set_self, List.getElem_set_self, toNat_ofNat8 (and_lt (u8_lt_ _))]
        congr 1
        rw [tornP_prog hk, keepP_prog hk]
        by_cases hp : part = []
        · rw [if_pos hp, if_pos hp, turnB_none _ _ hbj (by omega), mix_self _ _ hbj (and_lt hbj)]
        · rw [if_neg hp, if_neg hp, torn_prog _ _ _ hbj (by omega) (u8_lt_ _)]
      · rw [List.getElem_set_ne hij, List.getElem_set_ne hij, getD_lt hjl, mix_same _ _ (u8_lt_ _) (keepP_lt ..), ofNat_toNat8]
  · have hk1 : ¬ d.kind = 1 := by omega
    simp only [if_pos hk, if_neg hk1]
    refine congrArg (fun x => f.set d.at_.toNat (ofBytes x)) ?_
    obtain ⟨b, hb⟩ : ∃ b, b = bytesOf (f.getD d.at_.toNat ⟨#[]⟩) := ⟨_, rfl⟩
    have hl : b.length = 128 := by rw [hb, bytes_length]; exact h2 _ (getD_mem hn)
    rw [← hb]
    unfold eraseB mixL blankB
    apply List.ext_getElem
    · simp [hl]
    · intro j h1 h3
      simp only [List.getElem_mapIdx, List.getElem_replicate]
      have hjl : j < b.length := by simpa using h1
      rw [getD_lt hjl]
      congr 1
      have h5 := u8_lt_ b[j]
      rw [tornP_erase hk, keepP_erase hk, show (255 : UInt8).toNat = 255 from rfl]
      by_cases hp : j < part.length
      · rw [if_pos hp, if_pos hp]
        exact (torn_erase _ _ h5 (u8_lt_ _)).symm
      · rw [if_neg hp, if_neg hp, mix_self _ _ h5 (by omega)]
        simp
theorem getD_set_self {f : List ByteArray} {i : Nat} (h : i < f.length) (x y : ByteArray) : (f.set i x).getD i y = x := by
  rw [List.getD_eq_getElem?_getD, List.getElem?_set_self h]; rfl
theorem set_set_ {α : Type} (l : List α) (i : Nat) (x y : α) : (l.set i x).set i y = l.set i y := List.set_set ..
/-- what was done in part, done then as a whole: as if it had been done at once -/
theorem done_again {f : List ByteArray} {d : Ded} (p : Nat → Nat) (hf : flErr f = 0) (hd : dedErr f.length d = 0) : done1 (turned f d p) d = done1 f d := by
  obtain ⟨_, h2⟩ := flErr_ok.1 hf
  unfold done1 turned
  rcases ded_place hd with ⟨hk, hn, hi, _, hv0, hv⟩ | ⟨hk, hn, _⟩
  · simp only [if_pos hk]
    rw [getD_set_self hn, set_set_, bytes_of]
    congr 2
    have hl : (bytesOf (f.getD (d.at_ / 128).toNat ⟨#[]⟩)).length = 128 := by rw [bytes_length]; exact h2 _ (getD_mem hn)
    unfold progB
    rw [set_set_]
    congr 2
    rw [List.getD_eq_getElem?_getD, List.getElem?_set_self (by omega)]
    show turnB (UInt8.ofNat _).toNat _ _ = _
    rw [toNat_ofNat8 (turnB_lt (u8_lt_ _)), turn_whole _ _ _ (u8_lt_ _) (by omega)]
  · have hk1 : ¬ d.kind = 1 := by omega
    simp only [if_neg hk1]
    have hl : (bytesOf (f.getD d.at_.toNat ⟨#[]⟩)).length = 128 := by rw [bytes_length]; exact h2 _ (getD_mem hn)
    rw [getD_set_self hn, set_set_, bytes_of, erase_whole (by rw [eraseB_length]; exact hl), erase_whole hl]
/-! All bytes. -/
theorem flat_length' : ∀ {f : List ByteArray}, (∀ s ∈ f, s.size = 128) → (flat f).length = 128 * f.length
  | [], _ => rfl
  | s :: f, h => by
    have h1 := h s (List.mem_cons_self ..)
    have h2 := flat_length' (f := f) fun x hx => h x (List.mem_cons_of_mem _ hx)
    unfold flat at h2 ⊢
    rw [List.flatMap_cons, List.length_append, bytes_length, h1, h2, List.length_cons]; omega
theorem flat_drop : ∀ {f : List ByteArray}, (∀ s ∈ f, s.size = 128) → ∀ n, n < f.length → ((flat f).drop (128 * n)).take 128 = bytesOf (f.getD n ⟨#[]⟩)
  | [], _, n, h => by simp at h
  | s :: f, h, n, hn => by
    have h1 := h s (List.mem_cons_self ..)
    have hs : (bytesOf s).length = 128 := by rw [bytes_length]; exact h1
    have e : flat (s :: f) = bytesOf s ++ flat f := by unfold flat; rw [List.flatMap_cons]
    rw [e]
    cases n with
    | zero => rw [Nat.mul_zero, List.drop_zero, List.take_append_of_le_length (by omega), List.take_of_length_le (by omega)]; rfl
    | succ n =>
      rw [show 128 * (n + 1) = (bytesOf s).length + 128 * n by omega, List.drop_append, List.drop_eq_nil_of_le (by omega), List.nil_append, show (bytesOf s).length + 128 * n - (bytesOf s).length = 128 * n by omega, flat_drop (fun x hx => h x (List.mem_cons_of_mem _ hx)) n (by simpa using hn)]
      rfl
theorem flat_byte {f : List ByteArray} (h : ∀ s ∈ f, s.size = 128) (j : Nat) (hj : j < 128 * f.length) : (flat f).getD j 0 = (bytesOf (f.getD (j / 128) ⟨#[]⟩)).getD (j % 128) 0 := by
  have hn : j / 128 < f.length := by omega
  rw [← flat_drop h (j / 128) hn]
  rw [List.getD_eq_getElem?_getD, List.getD_eq_getElem?_getD, List.getElem?_take_of_lt (by omega), List.getElem?_drop, show 128 * (j / 128) + j % 128 = j by omega]
/-- a byte behind a deed -/
theorem turned_byte {f : List ByteArray} {d : Ded} (p : Nat → Nat) (hf : flErr f = 0) (hd : dedErr f.length d = 0) (j : Nat) (hj : j < 128 * f.length) :
    (flat (turned f d p)).getD j 0 = if d.kind = 1 ∧ (j : Int) = d.at_ then UInt8.ofNat (turnB ((flat f).getD j 0).toNat d.value.toNat (p 0)) else if d.kind = 2 ∧ ((j / 128 : Nat) : Int) = d.at_ then UInt8.ofNat (((flat f).getD j 0).toNat ||| p (j % 128)) else (flat f).getD j 0 := by
  have hf2 := turned_ok p hf hd
  obtain ⟨_, h2⟩ := flErr_ok.1 hf
  obtain ⟨_, h3⟩ := flErr_ok.1 hf2
  rw [flat_byte h3 j (by rw [turned_length]; exact hj), flat_byte h2 j hj]
  unfold turned
  have hn : j / 128 < f.length := by omega
  have gd : ∀ (x : ByteArray) (i : Nat), i ≠ j / 128 → (f.set i x).getD (j / 128) ⟨#[]⟩ = f.getD (j / 128) ⟨#[]⟩ := fun x i hi => by
    rw [List.getD_eq_getElem?_getD, List.getElem?_set_ne hi, List.getD_eq_getElem?_getD]
  rcases ded_place hd with ⟨hk, hn1, hi, ha, hv0, hv⟩ | ⟨hk, hn1, ha, _⟩
  · rw [if_pos hk]
    have e2 : ¬ (d.kind = 2 ∧ ((j / 128 : Nat) : Int) = d.at_) := by omega
    rw [if_neg e2]
    have hl : (bytesOf (f.getD (d.at_ / 128).toNat ⟨#[]⟩)).length = 128 := by rw [bytes_length]; exact h2 _ (getD_mem hn1)
    by_cases hb : (d.at_ / 128).toNat = j / 128
    · rw [hb] at hl ⊢
      rw [getD_set_self hn, bytes_of]
      unfold progB
      by_cases hj2 : (d.at_ % 128).toNat = j % 128
      · rw [if_pos ⟨hk, by omega⟩, hj2, List.getD_eq_getElem?_getD, List.getElem?_set_self (by omega)]; rfl
      · rw [if_neg (by omega), getD_set_ne hj2]
    · rw [if_neg (by omega), gd _ _ hb]
  · have e1 : ¬ (d.kind = 1 ∧ (j : Int) = d.at_) := by omega
    rw [if_neg (by omega), if_neg e1]
    have hl : (bytesOf (f.getD d.at_.toNat ⟨#[]⟩)).length = 128 := by rw [bytes_length]; exact h2 _ (getD_mem hn1)
    by_cases hb : d.at_.toNat = j / 128
    · rw [if_pos ⟨hk, by omega⟩]
      rw [hb] at hl ⊢
      rw [getD_set_self hn, bytes_of]
      unfold eraseB
      have hm : j % 128 < (bytesOf (f.getD (j / 128) ⟨#[]⟩)).length := by omega
      rw [getD_mapIdx _ hm]
    · rw [if_neg (by omega), gd _ _ hb]
/-- an erased block is all 1 -/
theorem erased {f : List ByteArray} {b : Int} (hf : flErr f = 0) (hd : dedErr f.length ⟨2, b, 0⟩ = 0) : ((flat (done1 f ⟨2, b, 0⟩)).drop (128 * b.toNat)).take 128 = blankB := by
  have h3 := (flErr_ok.1 (turned_ok (fun _ => 255) hf hd)).2
  obtain ⟨_, h2⟩ := flErr_ok.1 hf
  have hn : b.toNat < f.length := by
    rcases ded_place hd with ⟨hk, _⟩ | ⟨_, hn, _⟩
    · cases hk
    · exact hn
  unfold done1
  rw [flat_drop h3 _ (by rw [turned_length]; exact hn)]
  unfold turned
  rw [if_neg (show ¬ ((2 : Int) = 1) by decide), getD_set_self hn, bytes_of, erase_whole (by rw [bytes_length]; exact h2 _ (getD_mem hn))]

end Go.Proofs.Ytpmjgkngkaleeaa
