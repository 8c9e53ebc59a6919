import Derived.Test.YtjnfemcfohflnaaWordW
import Derived.Test.YtjnfemcfohflnaaMem
import Derived.Shelf.GgClosure.StringsIndexFunc
import Derived.Lib.MapLaws
/- Names (chapter B): module.Name, module.within, module.letter, module.version, and the document's IsName. -/
namespace Go.Proofs.Ytjnfemcfohflnaa
open Go.RowKit

set_option maxHeartbeats 400000 in
theorem within_any (n a b : Int) (w : World) :
    Calls Try.prog 44 #[.int .i64 n, .int .i64 a, .int .i64 b] w fun e w' => e = .returned (.bool (decide (a ≤ n) && decide (n ≤ b))) ∧ w = w' := by
  go_enter Try.func44, Try.ntmps44
  go_wp2_with fail
  all_goals (go_ret; exact ⟨ret_bool (by rw [Bool.eq_iff_iff]; simp; omega), rfl⟩)
theorem within_t (n a b : Int) (w : World) (h1 : a ≤ n) (h2 : n ≤ b) :
    Calls Try.prog 44 #[.int .i64 n, .int .i64 a, .int .i64 b] w fun e w' => e = .returned (.bool true) ∧ w = w' :=
  (within_any n a b w).mono fun _ _ h => ⟨h.1.trans (ret_bool (by simp; omega)), h.2⟩
theorem within_f (n a b : Int) (w : World) (h : n < a ∨ b < n) :
    Calls Try.prog 44 #[.int .i64 n, .int .i64 a, .int .i64 b] w fun e w' => e = .returned (.bool false) ∧ w = w' :=
  (within_any n a b w).mono fun _ _ h' => ⟨h'.1.trans (ret_bool (by simp; omega)), h'.2⟩

set_option maxHeartbeats 400000 in
theorem rwithin_any (n a b : Int) (w : World) :
    Calls Try.prog 29 #[.int .i64 n, .int .i64 a, .int .i64 b] w fun e w' => e = .returned (.bool (decide (a ≤ n) && decide (n ≤ b))) ∧ w = w' := by
  go_enter Try.func29, Try.ntmps29
  go_wp2_with fail
  all_goals (go_ret; exact ⟨ret_bool (by rw [Bool.eq_iff_iff]; simp; omega), rfl⟩)

set_option maxHeartbeats 1000000 in
theorem MWidth_any (k : Int) (w : World) :
    Calls Try.prog 48 #[.int .i64 k] w fun e w' => e = .returned (.int .i64 (widthOf k)) ∧ Below w.heap.size w w' := by
  rcases widthOf_cases k with ⟨rfl, h⟩ | ⟨rfl, h⟩ | ⟨rfl, h⟩ | ⟨rfl, h⟩ | ⟨rfl, h⟩ | ⟨hk, h⟩
  all_goals
    have H := Lib.hid h
    clear h
    go_enter Try.func48, Try.ntmps48
    go_wp2_with (first | (go_at_call 44; (with_reducible refine (within_t _ _ _ _ ?_ ?_).mono ?_); (focus (first | omega | assumption)); (focus (first | omega | assumption)); rintro e w' ⟨rfl, rfl⟩) | (go_at_call 44; (with_reducible refine (within_f _ _ _ _ ?_).mono ?_); (focus (first | omega | assumption)); rintro e w' ⟨rfl, rfl⟩) | (go_at_call 44; (with_reducible refine (within_any _ _ _ _).mono ?_); rintro e w' ⟨rfl, rfl⟩))
  all_goals first | (go_ret; rw [H.out]; first | exact ⟨rfl, Below.refl _ _⟩ | exact ⟨rfl, (Below.refl _ _).alloc (Nat.le_refl _) _⟩) | (exfalso; simp at *; omega)

set_option maxHeartbeats 400000 in
theorem WidthOf_any (k : Int) (w : World) :
    Calls Try.prog 7 #[.int .i64 k] w fun e w' => e = .returned (.int .i64 (widthOf k)) ∧ w = w' := by
  go_enter Try.func7, Try.ntmps7
  go_wp2_with fail
  all_goals (go_ret; exact ⟨ret_int (by simp at *; unfold widthOf; (repeat' split) <;> omega), rfl⟩)

theorem letter_any (c : Int) (w : World) :
    Calls Try.prog 56 #[.int .u8 c] w fun e w' => e = .returned (.bool (decide (97 ≤ c) && decide (c ≤ 122))) ∧ w = w' := by
  go_enter Try.func56, Try.ntmps56
  go_wp2_with fail
  all_goals (go_ret; exact ⟨ret_bool (by rw [Bool.eq_iff_iff]; simp; omega), rfl⟩)

/-! ### strings.IndexFunc -/
set_option maxHeartbeats 2000000 in
set_option maxRecDepth 1000000 in
theorem indexFunc_any (g : Nat) (lb : Array Value) (eg : ∀ args w, (callFunc g args).run Try.prog w = .ok (.enter g args) w) (p : Nat → Bool) (truth : Bool) (s : ByteArray) (w : World) (hp : PredAt Try.prog g lb encR p w) :
    Calls Try.prog 70 #[.string s, .func (.func g) #[] lb, .bool truth] w fun e w' => e = .returned (.int .i64 (Lib.idxFunc p truth s)) ∧ Below w.heap.size w w' := by
  go_enter Try.func70, Try.ntmps70
  go_wp2_with fail
  go_loopg [] s.size (fun gf wx => ∃ pos : Nat, wx.heap[w.heap.size]? = some (.stringIter s pos) ∧ Below w.heap.size w wx ∧ Lib.idxFuncFrom p truth s gf pos = Lib.idxFunc p truth s ∧ s.size ≤ pos + gf)
  case atStart => exact ⟨0, World.iter_heap w s 0, (Below.refl _ w).alloc (Nat.le_refl _) _, rfl, by omega⟩
  case round =>
    obtain ⟨pos, hit, hbw, hleft, hfu⟩ := hrel
    by_cases hps : pos < s.size
    · obtain ⟨g', rfl⟩ : ∃ g', gk = g' + 1 := ⟨gk - 1, by omega⟩
      have hnx : ∀ ty, (Instr.next (.pointer (some ⟨w.heap.size, 0, none⟩)) true ty).run Try.prog wr = _ := fun ty => Lib.run_next_any_at wr w.heap.size s pos ty hit hps
      have hwd := Lib.width_pos s pos
      obtain ⟨R, hR⟩ : ∃ R, (Utf8.decode s pos).1 = R := ⟨_, rfl⟩
      obtain ⟨K, hK⟩ : ∃ K, (Utf8.decode s pos).2 = K := ⟨_, rfl⟩
      simp only [Lib.idxFuncFrom, hps, if_true, hR, hK] at hleft
      rw [hR, hK] at hnx
      rw [hK] at hwd
      have hit2 := Lib.iterAt_heap wr w.heap.size s pos (pos + K) hit
      have hbw2 := Lib.below_iterAt hbw (k := w.heap.size) (Nat.le_refl _) s (pos + K)
      obtain ⟨W, hWd⟩ : ∃ W, wr.iterAt w.heap.size s (pos + K) = W := ⟨_, rfl⟩
      rw [hWd] at hnx hit2 hbw2
      have cS : Calls Try.prog g (#[.int .i32 (R : Int)] ++ lb) W _ := hp W R hbw2
      clear hp
      cases hsp : p R <;> cases truth <;> rw [hsp] at cS <;> simp only [hsp, if_true, Bool.false_eq_true, Bool.true_eq_false, if_false] at hleft
      · go_wp2_with (go_at_fn g; refine cS.mono ?_; rintro e W' ⟨rfl, q, rfl⟩)
        go_ret
        exact ⟨by rw [← hleft] <;> rfl, below_drewN' hbw2 q⟩
      · go_wp2_with (go_at_fn g; refine cS.mono ?_; rintro e W' ⟨rfl, q, rfl⟩)
        go_roundg g'
        case measure => omega
        case rel => exact ⟨pos + K, hit2, below_drewN' hbw2 q, hleft, by omega⟩
      · go_wp2_with (go_at_fn g; refine cS.mono ?_; rintro e W' ⟨rfl, q, rfl⟩)
        go_roundg g'
        case measure => omega
        case rel => exact ⟨pos + K, hit2, below_drewN' hbw2 q, hleft, by omega⟩
      · go_wp2_with (go_at_fn g; refine cS.mono ?_; rintro e W' ⟨rfl, q, rfl⟩)
        go_ret
        exact ⟨by rw [← hleft] <;> rfl, below_drewN' hbw2 q⟩
    · have hnx : ∀ ty, (Instr.next (.pointer (some ⟨w.heap.size, 0, none⟩)) true ty).run Try.prog wr = _ := fun ty => Lib.run_next_end_at wr w.heap.size s pos ty hit hps
      rw [Lib.idxFuncFrom_end p truth s gk pos hps] at hleft
      go_wp2_with fail
      go_ret
      exact ⟨by rw [← hleft] <;> rfl, hbw⟩

theorem IndexFunc_any (g : Nat) (lb : Array Value) (eg : ∀ args w, (callFunc g args).run Try.prog w = .ok (.enter g args) w) (p : Nat → Bool) (s : ByteArray) (w : World) (hp : PredAt Try.prog g lb encR p w) :
    Calls Try.prog 57 #[.string s, .func (.func g) #[] lb] w fun e w' => e = .returned (.int .i64 (Lib.idxFunc p true s)) ∧ Below w.heap.size w w' := by
  have c := Lib.hid (indexFunc_any g lb eg p true s w hp)
  go_enter Try.func57, Try.ntmps57
  go_wp2_with (go_at_call 70; refine c.out.mono ?_; rintro e w' ⟨rfl, hb⟩)
  go_ret
  exact ⟨rfl, hb⟩

/-- a rune that may not stand in a name -/
def badRune (r : Nat) : Bool := decide (126 < r) || !((decide (97 ≤ r) && decide (r ≤ 122)) || (decide (48 ≤ r) && decide (r ≤ 57)) || decide (r = 95))

theorem other_at (w : World) : PredAt Try.prog 55 #[] encR badRune w := fun W r _ => by
  unfold FnGives
  by_cases h0 : 126 < r
  · have z0 : (126 : Int) < (r : Int) := by omega
    go_enter Try.func55, Try.ntmps55
    go_wp2_with fail
    go_ret
    exact ⟨by simp [badRune, h0], 0, rfl⟩
  · have z0 : decide ((126 : Int) < (r : Int)) = false := by simp; omega
    have z1 : IntKind.u8.wrap (r : Int) = r := by simp [IntKind.wrap_u8]; omega
    have c := Lib.hid (fun W => letter_any (r : Int) W)
    by_cases h1 : (97 ≤ r ∧ r ≤ 122)
    · have hl : (decide ((97 : Int) ≤ r) && decide ((r : Int) ≤ 122)) = true := by simp; omega
      go_enter Try.func55, Try.ntmps55
      go_wp2_with (go_at_call 56; refine (c.out _).mono ?_; rintro e w' ⟨rfl, rfl⟩; try rw [hl])
      all_goals (go_ret; exact ⟨by simp [badRune, h0, h1], 0, rfl⟩)
    · have hl : (decide ((97 : Int) ≤ r) && decide ((r : Int) ≤ 122)) = false := by simp; omega
      have c2 := Lib.hid (fun W => (within_any (r : Int) 48 57 W))
      by_cases h2 : (48 ≤ r ∧ r ≤ 57)
      · go_enter Try.func55, Try.ntmps55
        go_wp2_with (first | (go_at_call 56; refine (c.out _).mono ?_; rintro e w' ⟨rfl, rfl⟩; try rw [hl]) | (go_at_call 44; refine (c2.out _).mono ?_; rintro e w' ⟨rfl, rfl⟩))
        all_goals (go_ret; exact ⟨by simp [badRune, h0, h2], 0, rfl⟩)
      · go_enter Try.func55, Try.ntmps55
        go_wp2_with (first | (go_at_call 56; refine (c.out _).mono ?_; rintro e w' ⟨rfl, rfl⟩; try rw [hl]) | (go_at_call 44; refine (c2.out _).mono ?_; rintro e w' ⟨rfl, rfl⟩))
        all_goals (go_ret; exact ⟨ret_bool (by rw [Bool.eq_iff_iff]; simp [badRune, h0]; omega), 0, rfl⟩)

theorem decode_byte (s : ByteArray) (pos : Nat) (h : pos < s.size) : (s[pos].toNat < 128 ∧ Utf8.decode s pos = (s[pos].toNat, 1)) ∨ (128 ≤ s[pos].toNat ∧ 128 ≤ (Utf8.decode s pos).1) := by
  rw [Lib.decode_at]
  have e : s.get! pos = s[pos] := by
    simp [ByteArray.get!, ByteArray.getElem_eq_getElem_data, getElem!_pos, h]
  rw [e]
  rcases Lib.decodeN_shape (s.size - pos) s[pos].toNat (s.get! (pos + 1)).toNat (s.get! (pos + 2)).toNat (s.get! (pos + 3)).toNat with h1 | h1 | h1 | h1 | h1
  · exact .inl h1
  · refine .inr ⟨by omega, ?_⟩; rw [h1.2.2.2.2]; exact h1.2.2.2.1
  · refine .inr ⟨by omega, ?_⟩; rw [h1.2.2.2.2.2.2]; show 128 ≤ _; have := h1.2.2.2.2.1; omega
  · refine .inr ⟨by omega, ?_⟩; rw [h1.2.2.2.2.2.2.2]; show 128 ≤ _; have := h1.2.2.2.2.2.1; omega
  · by_cases hb : s[pos].toNat < 128
    · refine .inl ⟨hb, ?_⟩
      have : Lib.decodeN (s.size - pos) s[pos].toNat (s.get! (pos + 1)).toNat (s.get! (pos + 2)).toNat (s.get! (pos + 3)).toNat = (s[pos].toNat, 1) := by
        unfold Lib.decodeN; rw [if_pos hb]
      exact this
    · refine .inr ⟨by omega, ?_⟩; rw [h1]; show 128 ≤ _; omega

theorem bad_ok (c : UInt8) : badRune c.toNat = !okByte c := by
  have := c.toNat_lt
  unfold badRune okByte
  rw [Bool.eq_iff_iff]; simp; omega
theorem idx_name_from (s : ByteArray) : ∀ f pos, s.size ≤ pos + f → (Lib.idxFuncFrom badRune true s f pos < 0 ↔ (s.data.toList.drop pos).all okByte = true)
  | 0, pos, h => by
    rw [List.drop_eq_nil_of_le (by simpa using h)]
    simp [Lib.idxFuncFrom]
  | f + 1, pos, h => by
    unfold Lib.idxFuncFrom
    by_cases hp : pos < s.size
    · rw [if_pos hp, List.drop_eq_getElem_cons (by simpa using hp)]
      have e : s.data.toList[pos]'(by simpa using hp) = s[pos] := by simp [ByteArray.getElem_eq_getElem_data]
      rw [e, List.all_cons]
      rcases decode_byte s pos hp with ⟨h1, h2⟩ | ⟨h1, h2⟩
      · rw [h2]
        simp only [bad_ok]
        cases hk : okByte s[pos]
        · simp
        · simp only [Bool.not_true, Bool.false_eq_true, if_false, Bool.true_and]
          exact idx_name_from s f (pos + 1) (by omega)
      · have hb : badRune (Utf8.decode s pos).1 = true := by unfold badRune; simp; omega
        have ho : okByte s[pos] = false := by unfold okByte; simp; omega
        rw [if_pos hb, ho]; simp
    · rw [if_neg hp, List.drop_eq_nil_of_le (by simpa using hp)]
      simp
theorem idx_name (s : ByteArray) : decide (Lib.idxFunc badRune true s < 0) = s.data.toList.all okByte := by
  have := idx_name_from s s.size 0 (by omega)
  rw [List.drop_zero] at this
  rw [Bool.eq_iff_iff, decide_eq_true_eq]; exact this

theorem okFirst_eq (s : ByteArray) (h : 0 < s.size) : okFirst s.data.toList = (decide ((97 : Int) ≤ (s[0].toNat : Int)) && decide ((s[0].toNat : Int) ≤ 122)) := by
  have e : s.data.toList = s[0] :: s.data.toList.drop 1 := by
    have := List.drop_eq_getElem_cons (l := s.data.toList) (i := 0) (by simpa using h)
    simpa [ByteArray.getElem_eq_getElem_data] using this
  rw [e]; unfold okFirst
  rw [Bool.eq_iff_iff]; simp; omega

set_option maxHeartbeats 1000000 in
theorem Name_any (s : ByteArray) (w : World) (hs : s.size ≤ big) :
    Calls Try.prog 43 #[.string s] w fun e w' => e = .returned (.bool (isName s)) ∧ Below w.heap.size w w' := by
  unfold big at hs
  have HB := Lib.hid (Below.refl w.heap.size w)
  by_cases h0 : s.size = 0
  · have hn : isName s = false := by
      have : s.data.toList = [] := List.eq_nil_of_length_eq_zero (by simpa using h0)
      unfold isName; rw [this]; simp [okFirst]
    rw [hn]; clear hn
    go_enter Try.func43, Try.ntmps43
    go_wp2_with fail
    all_goals (go_ret; exact ⟨rfl, HB.out⟩)
  by_cases h1 : 10 < s.size
  · have hn : isName s = false := by unfold isName; simp; omega
    rw [hn]; clear hn
    have z0 : (10 : Int) < s.size := by omega
    go_enter Try.func43, Try.ntmps43
    go_wp2_with fail
    all_goals (go_ret; exact ⟨rfl, HB.out⟩)
  have h2 : 0 < s.size := by omega
  have z1 : (1 : Int) ≤ s.size := by omega
  have z2 : (s.size : Int) ≤ 10 := by omega
  have c1 := Lib.hid (fun W => (letter_any (s[0].toNat : Int) W).mono fun _ _ h => (⟨h.1.trans (ret_bool (okFirst_eq s h2).symm), h.2⟩ : _ = Ending.returned (.bool (okFirst s.data.toList)) ∧ _))
  cases hl : okFirst s.data.toList
  · have hn : isName s = false := by unfold isName; simp [hl]
    rw [hl] at c1
    rw [hn]; clear hn hl
    go_enter Try.func43, Try.ntmps43
    go_wp2_with (go_at_call 56; refine (c1.out _).mono ?_; rintro e w' ⟨rfl, rfl⟩)
    all_goals (go_ret; exact ⟨rfl, HB.out⟩)
  · have hn : isName s = s.data.toList.all okByte := by unfold isName; simp [hl]; omega
    rw [hl] at c1
    rw [hn, ← idx_name]; clear hn hl
    have c2 := Lib.hid (fun W => IndexFunc_any 55 #[] (enters_of Try.func55 (by kernel_rfl) rfl) badRune s W (other_at W))
    obtain ⟨r, hr⟩ : ∃ r, r = Lib.idxFunc badRune true s := ⟨_, rfl⟩
    rw [← hr] at c2 ⊢
    clear hr
    go_enter Try.func43, Try.ntmps43
    go_wp2_with (first | (go_at_call 56; refine (c1.out _).mono ?_; rintro e w' ⟨rfl, rfl⟩) | (go_at_call 57; refine (c2.out _).mono ?_; rintro e w1 ⟨rfl, hb⟩))
    all_goals (go_ret; first | exact ⟨by simp [*], hb⟩ | exact ⟨by simp, hb⟩)

theorem all_take (p : UInt8 → Bool) (s : ByteArray) (j : Nat) (h : j < s.size) : (s.data.toList.take (j + 1)).all p = ((s.data.toList.take j).all p && p s[j]) := by
  have e := List.take_append_getElem (l := s.data.toList) (i := j) (by simpa using h)
  rw [← e, List.all_append]; simp [ByteArray.getElem_eq_getElem_data]
theorem all_no (p : UInt8 → Bool) (s : ByteArray) (j : Nat) (h : j < s.size) (hp : p s[j] = false) : s.data.toList.all p = false := by
  rw [List.all_eq_false]
  exact ⟨s[j], by rw [show s[j] = s.data.toList[j]'(by simpa using h) by simp [ByteArray.getElem_eq_getElem_data]]; exact List.getElem_mem _, by simp [hp]⟩
theorem all_end (p : UInt8 → Bool) (s : ByteArray) (j : Nat) (h : ¬ j < s.size) (hp : (s.data.toList.take j).all p = true) : s.data.toList.all p = true := by
  rwa [List.take_of_length_le (by simp; omega)] at hp

end Go.Proofs.Ytjnfemcfohflnaa
