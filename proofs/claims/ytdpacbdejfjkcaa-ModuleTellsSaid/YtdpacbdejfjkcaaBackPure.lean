import Derived.Test.YtdpacbdejfjkcaaDecPure
import Derived.Test.YtdpacbdejfjkcaaResPure
import Derived.Test.YtdpacbdejfjkcaaEncW
/- Plain Lean: decoding undoes encoding, and encoding undoes decoding (chapter B). -/
open Go
namespace Go.Proofs.Ytdpacbdejfjkcaa

theorem txt_app {n : Nat} {a r : List UInt8} (h : a.length = n) : txt n (some (a ++ r)) = (a, some r) := by
  rw [txt_some (by rw [List.length_append]; omega)]
  subst h
  simp
theorem numb_app {k : Nat} {n : Int} (r : List UInt8) (h0 : 0 ≤ n) (h : n < p256 k) : numb k (some (digits n k ++ r)) = (n, some r) := by
  unfold numb
  rw [txt_app (digits_length n k), num_digits, Int.emod_eq_of_lt h0 h]
theorem p256_1 : p256 1 = 256 := by rw [p256_pow]; rfl
theorem p256_2 : p256 2 = 65536 := by rw [p256_pow]; rfl
theorem sof_toList (s : ByteArray) : sof s.data.toList = s := by cases s; simp
theorem data_len (s : ByteArray) : s.data.toList.length = s.size := by rw [Array.length_toList]; rfl
theorem sof_size' (l : List UInt8) : (sof l).size = l.length := by show l.toArray.size = _; simp
theorem nam_app (s : ByteArray) (r : List UInt8) (h : s.size ≤ 255) : nam (some (encName s ++ r)) = (s.data.toList, some r) := by
  have e : encName s ++ r = digits s.size 1 ++ (s.data.toList ++ r) := by unfold encName; rw [List.append_assoc]
  unfold nam
  rw [e, numb_app _ (by omega) (by rw [p256_1]; omega)]
  exact txt_app (by rw [data_len]; omega)
theorem exp_app (x : Exp) (r : List UInt8) (h : x.name.size ≤ 255) (h0 : 0 ≤ x.at_) (h1 : x.at_ < 65536) : decExp (some (encExp x ++ r)) = (x, some r) := by
  have e : encExp x ++ r = encName x.name ++ (digits x.at_ 2 ++ r) := by unfold encExp; rw [List.append_assoc]
  unfold decExp
  rw [e, nam_app _ _ h]
  simp only
  rw [numb_app _ h0 (by rw [p256_2]; omega), sof_toList]
theorem imp_app (x : Imp) (r : List UInt8) (h : x.mod.size ≤ 255) (h' : x.name.size ≤ 255) (h0 : 0 ≤ x.major) (h1 : x.major ≤ 255) (h2 : 0 ≤ x.minor) (h3 : x.minor ≤ 255) : decImp (some (encImp x ++ r)) = (x, some r) := by
  have e : encImp x ++ r = encName x.mod ++ (encName x.name ++ (digits x.major 1 ++ (digits x.minor 1 ++ r))) := by unfold encImp; simp only [List.append_assoc]
  unfold decImp
  rw [e, nam_app _ _ h]
  simp only
  rw [nam_app _ _ h']
  simp only
  rw [numb_app _ h0 (by rw [p256_1]; omega)]
  simp only
  rw [numb_app _ h2 (by rw [p256_1]; omega), sof_toList, sof_toList]
theorem pat_app (x : Pat) (r : List UInt8) (h0 : 0 ≤ x.kind) (h1 : x.kind ≤ 255) (h2 : 0 ≤ x.at_) (h3 : x.at_ < 65536) (h4 : -1 ≤ x.sym) (h5 : x.sym ≤ 100) (h6 : 0 ≤ x.add) (h7 : x.add < 65536) : decPat (some (encPat x ++ r)) = (x, some r) := by
  have e : encPat x ++ r = digits x.kind 1 ++ (digits x.at_ 2 ++ (digits (x.sym + 1) 1 ++ (digits x.add 2 ++ r))) := by unfold encPat; simp only [List.append_assoc]
  unfold decPat
  rw [e, numb_app _ h0 (by rw [p256_1]; omega)]
  simp only
  rw [numb_app _ h2 (by rw [p256_2]; omega)]
  simp only
  rw [numb_app _ (by omega) (by rw [p256_1]; omega)]
  simp only
  rw [numb_app _ h6 (by rw [p256_2]; omega)]
  simp only [Prod.mk.injEq, and_true]
  rw [show x.sym + 1 - 1 = x.sym by omega]
theorem reps_app {α : Type} {f : Rest → α × Rest} {enc : α → List UInt8} : ∀ {xs : List α} (r : List UInt8), (∀ x ∈ xs, ∀ r, f (some (enc x ++ r)) = (x, some r)) → reps f xs.length (some (xs.flatMap enc ++ r)) = (xs, some r)
  | [], r, _ => rfl
  | x :: xs, r, h => by
    have e : (x :: xs).flatMap enc ++ r = enc x ++ (xs.flatMap enc ++ r) := by rw [List.flatMap_cons, List.append_assoc]
    rw [List.length_cons, e]
    show ((f (some (enc x ++ (xs.flatMap enc ++ r)))).1 :: (reps f xs.length (f (some (enc x ++ (xs.flatMap enc ++ r)))).2).1, (reps f xs.length (f (some (enc x ++ (xs.flatMap enc ++ r)))).2).2) = _
    rw [h x (by simp)]
    simp only
    rw [reps_app r fun y hy => h y (List.mem_cons_of_mem _ hy)]

theorem dec_enc {m : Mod} (h : modErr m = 0) : (d7 (encMod m)).2 = some [] ∧ SameC (rawMod (encMod m)) m := by
  obtain ⟨h1, h2, h3, h4, h5, h6, h7, h8, h9, h10, h11⟩ := modErr_facts h
  have hn := isName_size h1
  obtain ⟨q9, hq9⟩ : ∃ q, q = m.pa.flatMap encPat ++ ([] : List UInt8) := ⟨_, rfl⟩
  obtain ⟨q8, hq8⟩ : ∃ q, q = digits m.pa.length 1 ++ q9 := ⟨_, rfl⟩
  obtain ⟨q7, hq7⟩ : ∃ q, q = m.im.flatMap encImp ++ q8 := ⟨_, rfl⟩
  obtain ⟨q6, hq6⟩ : ∃ q, q = digits m.im.length 1 ++ q7 := ⟨_, rfl⟩
  obtain ⟨q5, hq5⟩ : ∃ q, q = m.ex.flatMap encExp ++ q6 := ⟨_, rfl⟩
  obtain ⟨q4, hq4⟩ : ∃ q, q = digits m.ex.length 1 ++ q5 := ⟨_, rfl⟩
  obtain ⟨q3, hq3⟩ : ∃ q, q = m.text.data.toList ++ q4 := ⟨_, rfl⟩
  obtain ⟨q2, hq2⟩ : ∃ q, q = digits m.text.size 2 ++ q3 := ⟨_, rfl⟩
  obtain ⟨q1, hq1⟩ : ∃ q, q = digits m.minor 1 ++ q2 := ⟨_, rfl⟩
  obtain ⟨q0, hq0⟩ : ∃ q, q = digits m.major 1 ++ q1 := ⟨_, rfl⟩
  have e : encMod m = encName m.name ++ q0 := by
    rw [hq0, hq1, hq2, hq3, hq4, hq5, hq6, hq7, hq8, hq9]
    unfold encMod encHead
    simp only [List.append_assoc, List.append_nil]
  generalize hL : encMod m = L at *
  have p1 := p256_1
  have p2 := p256_2
  have g0 : d0 L = (m.name.data.toList, some q0) := by unfold d0; rw [e, nam_app _ _ (by omega)]
  have g1 : d1 L = (m.major, some q1) := by unfold d1; rw [g0]; simp only; rw [hq0, numb_app _ (by omega) (by omega)]
  have g2 : d2 L = (m.minor, some q2) := by unfold d2; rw [g1]; simp only; rw [hq1, numb_app _ (by omega) (by omega)]
  have g3 : d3 L = ((m.text.size : Int), some q3) := by unfold d3; rw [g2]; simp only; rw [hq2, numb_app _ (by omega) (by omega)]
  have g4 : d4 L = (m.text.data.toList, some q4) := by unfold d4; rw [g3]; simp only; rw [hq3, txt_app (by rw [data_len]; omega)]
  have g5 : d5 L = (m.ex, some q6) := by
    unfold d5; rw [g4]; simp only; rw [hq4, numb_app _ (by omega) (by omega)]
    simp only
    rw [show ((m.ex.length : Int)).toNat = m.ex.length by omega, hq5, reps_app _ fun x hx r => by
      have := expErr_ok h9 x hx
      have hs := isName_size this.1
      exact exp_app x r (by omega) this.2.1 (by omega)]
  have g6 : d6 L = (m.im, some q8) := by
    unfold d6; rw [g5]; simp only; rw [hq6, numb_app _ (by omega) (by omega)]
    simp only
    rw [show ((m.im.length : Int)).toNat = m.im.length by omega, hq7, reps_app _ fun x hx r => by
      have := impErr_ok (impsErr_ok h10 x hx)
      have hs := isName_size this.1
      have hs' := isName_size this.2.1
      exact imp_app x r (by omega) (by omega) this.2.2.1 this.2.2.2.1 this.2.2.2.2.1 this.2.2.2.2.2]
  have g7 : d7 L = (m.pa, some []) := by
    unfold d7; rw [g6]; simp only; rw [hq8, numb_app _ (by omega) (by omega)]
    simp only
    rw [show ((m.pa.length : Int)).toNat = m.pa.length by omega, hq9, reps_app _ fun x hx r => by
      obtain ⟨e, he⟩ := patsErr_ok (mod_pats h) x hx
      have := patErr_inv he
      have hk := widthOf_cases x.kind
      exact pat_app x r (by omega) (by omega) (by omega) (by omega) (by omega) (by omega) (by omega) (by omega)]
  refine ⟨by rw [g7], ?_⟩
  unfold rawMod
  exact ⟨by show sof (d0 L).1 = _; rw [g0, sof_toList], by show (d1 L).1 = _; rw [g1], by show (d2 L).1 = _; rw [g2], by show sof (d4 L).1 = _; rw [g4, sof_toList], by show (d5 L).1 = _; rw [g5], by show (d6 L).1 = _; rw [g6], by show (d7 L).1 = _; rw [g7]⟩
theorem dec_enc_ok {m : Mod} (h : modErr m = 0) : decErr (encMod m) = 0 ∧ SameC (decRes (encMod m)) m := by
  obtain ⟨h1, h2⟩ := dec_enc h
  have e : decErr (encMod m) = 0 := by
    unfold decErr
    rw [if_neg (by simp [h1]), h2.err, h]
  refine ⟨e, ?_⟩
  unfold decRes
  rw [if_neg (by omega)]
  exact h2

/-! ### the other way -/
theorem txt_inv {n : Nat} {st : Rest} {r : List UInt8} (h : (txt n st).2 = some r) : st = some ((txt n st).1 ++ r) ∧ (txt n st).1.length = n := by
  cases st with
  | none => cases h
  | some s =>
    by_cases hs : s.length < n
    · rw [txt_few hs] at h; cases h
    · rw [txt_some hs] at h ⊢
      injection h with h
      subst h
      exact ⟨by simp, by rw [List.length_take]; omega⟩
theorem numb_inv {k : Nat} {st : Rest} {r : List UInt8} (h : (numb k st).2 = some r) : st = some (digits (numb k st).1 k ++ r) := by
  obtain ⟨h1, h2⟩ := txt_inv (n := k) h
  have : digits (numb k st).1 k = (txt k st).1 := by
    show digits (num (txt k st).1) k = _
    have h3 := digits_num (txt k st).1
    rw [h2] at h3
    exact h3
  rw [this]
  exact h1
theorem nam_inv {st : Rest} {r : List UInt8} (h : (nam st).2 = some r) : st = some (encName (sof (nam st).1) ++ r) := by
  obtain ⟨h1, h2⟩ := txt_inv (n := (numb 1 st).1.toNat) h
  have h3 := numb_inv h1
  have h0 := (numb_range 1 st (by omega)).1
  have e : encName (sof (nam st).1) = digits (numb 1 st).1 1 ++ (nam st).1 := by
    unfold encName
    rw [sof_size']
    congr 2
    show ((txt (numb 1 st).1.toNat (numb 1 st).2).1.length : Int) = _
    omega
  rw [e, List.append_assoc]
  exact h3
theorem exp_inv {st : Rest} {r : List UInt8} (h : (decExp st).2 = some r) : st = some (encExp (decExp st).1 ++ r) := by
  have h1 := numb_inv (k := 2) h
  have h2 := nam_inv h1
  have e : encExp (decExp st).1 ++ r = encName (sof (nam st).1) ++ (digits (numb 2 (nam st).2).1 2 ++ r) := by unfold encExp decExp; rw [List.append_assoc]
  rw [e]; exact h2
theorem imp_inv {st : Rest} {r : List UInt8} (h : (decImp st).2 = some r) : st = some (encImp (decImp st).1 ++ r) := by
  have h1 := numb_inv (k := 1) (st := (numb 1 (nam (nam st).2).2).2) h
  have h2 := numb_inv h1
  have h3 := nam_inv h2
  have h4 := nam_inv h3
  have e : encImp (decImp st).1 ++ r = encName (sof (nam st).1) ++ (encName (sof (nam (nam st).2).1) ++ (digits (numb 1 (nam (nam st).2).2).1 1 ++ (digits (numb 1 (numb 1 (nam (nam st).2).2).2).1 1 ++ r))) := by unfold encImp decImp; simp only [List.append_assoc]
  rw [e]; exact h4
theorem pat_inv {st : Rest} {r : List UInt8} (h : (decPat st).2 = some r) : st = some (encPat (decPat st).1 ++ r) := by
  have h1 := numb_inv (k := 2) (st := (numb 1 (numb 2 (numb 1 st).2).2).2) h
  have h2 := numb_inv h1
  have h3 := numb_inv h2
  have h4 := numb_inv h3
  have e : encPat (decPat st).1 ++ r = digits (numb 1 st).1 1 ++ (digits (numb 2 (numb 1 st).2).1 2 ++ (digits (numb 1 (numb 2 (numb 1 st).2).2).1 1 ++ (digits (numb 2 (numb 1 (numb 2 (numb 1 st).2).2).2).1 2 ++ r))) := by
    unfold encPat decPat
    simp only [List.append_assoc]
    rw [show (numb 1 (numb 2 (numb 1 st).2).2).1 - 1 + 1 = (numb 1 (numb 2 (numb 1 st).2).2).1 by omega]
  rw [e]; exact h4
theorem reps_inv {α : Type} {f : Rest → α × Rest} {enc : α → List UInt8} (hf : ∀ st r, (f st).2 = some r → st = some (enc (f st).1 ++ r)) : ∀ {n : Nat} {st : Rest} {r : List UInt8}, (reps f n st).2 = some r → st = some ((reps f n st).1.flatMap enc ++ r) ∧ (reps f n st).1.length = n
  | 0, st, r, h => by
    have h : st = some r := h
    rw [h]; exact ⟨rfl, rfl⟩
  | n + 1, none, r, h => by cases h
  | n + 1, some s, r, h => by
    have h : (reps f n (f (some s)).2).2 = some r := h
    obtain ⟨h1, h2⟩ := reps_inv hf h
    have h3 := hf _ _ h1
    refine ⟨?_, by show (_ :: (reps f n (f (some s)).2).1).length = _; rw [List.length_cons, h2]⟩
    have e : (reps f (n + 1) (some s)).1.flatMap enc ++ r = enc (f (some s)).1 ++ ((reps f n (f (some s)).2).1.flatMap enc ++ r) := by
      show ((f (some s)).1 :: (reps f n (f (some s)).2).1).flatMap enc ++ r = _
      rw [List.flatMap_cons, List.append_assoc]
    rw [e]; exact h3
theorem reps_cnt {α : Type} {f : Rest → α × Rest} {enc : α → List UInt8} (hf : ∀ st r, (f st).2 = some r → st = some (enc (f st).1 ++ r)) {st : Rest} {r : List UInt8} (h : (reps f (numb 1 st).1.toNat (numb 1 st).2).2 = some r) :
    st = some (digits ((reps f (numb 1 st).1.toNat (numb 1 st).2).1.length) 1 ++ ((reps f (numb 1 st).1.toNat (numb 1 st).2).1.flatMap enc ++ r)) := by
  obtain ⟨h1, h2⟩ := reps_inv hf h
  have h3 := numb_inv h1
  have h0 := (numb_range 1 st (by omega)).1
  rw [h2, show (((numb 1 st).1.toNat : Nat) : Int) = (numb 1 st).1 by omega]
  exact h3
theorem enc_dec {l : List UInt8} (h : (d7 l).2 = some []) : encMod (rawMod l) = l := by
  have h7 := reps_cnt (st := (d6 l).2) (fun _ _ => pat_inv) h
  have h6 := reps_cnt (st := (d5 l).2) (fun _ _ => imp_inv) h7
  have h5 := reps_cnt (st := (d4 l).2) (fun _ _ => exp_inv) h6
  obtain ⟨h4, h4l⟩ := txt_inv (n := (d3 l).1.toNat) (st := (d3 l).2) h5
  have h3 := numb_inv (st := (d2 l).2) h4
  have h2 := numb_inv (st := (d1 l).2) h3
  have h1 := numb_inv (st := (d0 l).2) h2
  have h0 := nam_inv (st := some l) h1
  injection h0 with h0
  have hr := (numb_range 2 (d2 l).2 (by omega)).1
  change 0 ≤ (d3 l).1 at hr
  have ht : ((sof (d4 l).1).size : Int) = (d3 l).1 := by
    rw [sof_size']
    have : (d4 l).1.length = (d3 l).1.toNat := h4l
    omega
  conv => rhs; rw [h0]
  unfold encMod encHead rawMod
  simp only [List.append_assoc]
  rw [ht]
  simp only [d5, d6, d7, List.append_nil]
  rfl

end Go.Proofs.Ytdpacbdejfjkcaa
