import Derived.Test.YtgkpbndeljnjcaaGreatWord2W
/- The walks of package patch and of the document's answer to chapter C. -/
namespace Go.Proofs.YtgkpbndeljnjcaaGreat
open Go.RowKit

set_option maxHeartbeats 400000 in
theorem within_any (n a b : Int) (w : World) :
    Calls Tryz.prog 65 #[.int .i64 n, .int .i64 a, .int .i64 b] w fun e w' => e = .returned (.bool (decide (a ≤ n) && decide (n ≤ b))) ∧ w = w' := by
  go_enter Tryz.func65, Tryz.ntmps65
  go_wp2_with fail
  all_goals (go_ret; exact ⟨ret_bool (by rw [Bool.eq_iff_iff]; simp; omega), rfl⟩)

theorem within_t (n a b : Int) (w : World) (h1 : a ≤ n) (h2 : n ≤ b) :
    Calls Tryz.prog 65 #[.int .i64 n, .int .i64 a, .int .i64 b] w fun e w' => e = .returned (.bool true) ∧ w = w' :=
  (within_any n a b w).mono fun _ _ h => ⟨h.1.trans (ret_bool (by simp; omega)), h.2⟩
theorem within_f (n a b : Int) (w : World) (h : n < a ∨ b < n) :
    Calls Tryz.prog 65 #[.int .i64 n, .int .i64 a, .int .i64 b] w fun e w' => e = .returned (.bool false) ∧ w = w' :=
  (within_any n a b w).mono fun _ _ h' => ⟨h'.1.trans (ret_bool (by simp; omega)), h'.2⟩

set_option maxHeartbeats 1000000 in
theorem MWidth_any (k : Int) (w : World) :
    Calls Tryz.prog 69 #[.int .i64 k] w fun e w' => e = .returned (.int .i64 (widthOf k)) ∧ Below w.heap.size w w' := by
  rcases widthOf_cases k with ⟨rfl, h⟩ | ⟨rfl, h⟩ | ⟨rfl, h⟩ | ⟨rfl, h⟩ | ⟨rfl, h⟩ | ⟨hk, h⟩
  all_goals
    have H := Lib.hid h
    clear h
    go_enter Tryz.func69, Tryz.ntmps69
    go_wp2_with (first | (go_at_call 65; (with_reducible refine (within_t _ _ _ _ ?_ ?_).mono ?_); (focus (first | omega | assumption)); (focus (first | omega | assumption)); rintro e w' ⟨rfl, rfl⟩) | (go_at_call 65; (with_reducible refine (within_f _ _ _ _ ?_).mono ?_); (focus (first | omega | assumption)); rintro e w' ⟨rfl, rfl⟩) | (go_at_call 65; (with_reducible refine (within_any _ _ _ _).mono ?_); rintro e w' ⟨rfl, rfl⟩))
  all_goals first | (go_ret; rw [H.out]; first | exact ⟨rfl, Below.refl _ _⟩ | exact ⟨rfl, (Below.refl _ _).alloc (Nat.le_refl _) _⟩) | (exfalso; simp at *; omega)

set_option maxHeartbeats 400000 in
theorem WidthOf_any (k : Int) (w : World) :
    Calls Tryz.prog 40 #[.int .i64 k] w fun e w' => e = .returned (.int .i64 (widthOf k)) ∧ w = w' := by
  go_enter Tryz.func40, Tryz.ntmps40
  go_wp2_with fail
  all_goals (go_ret; exact ⟨ret_int (by simp at *; unfold widthOf; (repeat' split) <;> omega), rfl⟩)


def madeNum (kind sum place : Int) : Int := if kind = 2 then sum - place else if kind = 3 then sum / 65536 else if kind = 5 then (sum - place).tdiv 2 else sum
def madeOk (kind sum place : Int) : Bool := !(decide (kind = 5) && decide ((sum - place) % 2 = 1))

set_option maxHeartbeats 1000000 in
theorem made_any (kind sum place : Int) (w : World) (h1 : 0 ≤ sum) (h2 : sum ≤ 131070) (h3 : 0 ≤ place) (h4 : place ≤ 65535) (hk : widthOf kind ≠ 0) :
    Calls Tryz.prog 88 #[.int .i64 kind, .int .i64 sum, .int .i64 place] w fun e w' =>
      e = .returned (.tuple #[.int .i64 (madeNum kind sum place), .bool (madeOk kind sum place)]) ∧ w = w' := by
  have HD := Lib.hid (tdiv2 (sum - place))
  have HM := Lib.hid (tmod2 (sum - place))
  rcases widthOf_cases kind with ⟨rfl, h⟩ | ⟨rfl, h⟩ | ⟨rfl, h⟩ | ⟨rfl, h⟩ | ⟨rfl, h⟩ | ⟨_, h⟩
  · clear h hk
    go_enter Tryz.func88, Tryz.ntmps88
    go_wp2_with fail
    go_ret2
    exact ⟨by simp [madeNum, madeOk], rfl⟩
  · clear h hk
    go_enter Tryz.func88, Tryz.ntmps88
    go_wp2_with fail
    go_ret2
    exact ⟨by simp [madeNum, madeOk], rfl⟩
  · clear h hk
    go_enter Tryz.func88, Tryz.ntmps88
    go_wp2_with fail
    go_ret2
    exact ⟨by simp [madeNum, madeOk], rfl⟩
  · clear h hk
    go_enter Tryz.func88, Tryz.ntmps88
    go_wp2_with fail
    go_ret2
    exact ⟨by simp [madeNum, madeOk], rfl⟩
  · clear h hk
    go_enter Tryz.func88, Tryz.ntmps88
    go_wp2_with fail
    all_goals
      have hd := HD.out
      have hm := HM.out
      clear HD HM
      go_ret2
      refine ⟨?_, rfl⟩
      have e : madeOk 5 sum place = decide ((sum - place).tmod 2 = 0) := by
        unfold madeOk; rw [Bool.eq_iff_iff]; simp; split at hm <;> omega
      rw [e]
      simp [madeNum]
      try (split at hm <;> split at hd <;> omega)
  · exact absurd h hk

theorem in_any (n : Int) (w : World) :
    Calls Tryz.prog 87 #[.int .i64 n] w fun e w' => e = .returned (.bool (decide (0 ≤ n) && decide (n < 65536))) ∧ w = w' := by
  go_enter Tryz.func87, Tryz.ntmps87
  go_wp2_with fail
  all_goals (go_ret; exact ⟨ret_bool (by rw [Bool.eq_iff_iff]; simp; omega), rfl⟩)
theorem mask_w (w : Int) (h : w = 2 ∨ w = 3 ∨ w = 4) (n : Int) : bits .and .i64 n (2 ^ (8 * w).toNat - 1) = n % p256 w.toNat := by
  rcases h with rfl | rfl | rfl
  · exact (and_mask n 16 (by omega)).trans rfl
  · exact (and_mask n 24 (by omega)).trans rfl
  · exact (and_mask n 32 (by omega)).trans rfl

set_option maxHeartbeats 1000000 in
theorem Value_any (kind sym add place : Int) (w : World) :
    Calls Tryz.prog 70 #[.int .i64 kind, .int .i64 sym, .int .i64 add, .int .i64 place] w fun e w' =>
      e = .returned (.tuple #[.int .i64 (valueNum kind sym add place), .int .i64 (valueErr kind sym add place)]) ∧ Below w.heap.size w w' := by
  by_cases h0 : widthOf kind = 0
  · have h1 : valueErr kind sym add place = 7 := by unfold valueErr; rw [if_pos h0]
    have h2 : valueNum kind sym add place = 0 := by unfold valueNum; rw [h1, if_neg (by omega)]
    rw [h1, h2]
    clear h1 h2
    go_enter Tryz.func70, Tryz.ntmps70
    go_wp2_with (first | (go_at_call 69; (with_reducible refine (MWidth_any _ _).mono ?_); rintro e w1 ⟨rfl, hb1⟩) | (go_at_call 87; (with_reducible refine (in_any _ _).mono ?_); rintro e w' ⟨rfl, rfl⟩))
    all_goals (go_ret2; exact ⟨by simp, by assumption⟩)
  · by_cases hr : sym < 0 ∨ 65535 < sym ∨ place < 0 ∨ 65535 < place ∨ add < 0 ∨ 65535 < add
    · have h1 : valueErr kind sym add place = 3 := by unfold valueErr; rw [if_neg h0, if_pos hr]
      have h2 : valueNum kind sym add place = 0 := by unfold valueNum; rw [h1, if_neg (by omega)]
      rw [h1, h2]
      clear h1 h2
      have h0' : (widthOf kind == 0) = false := by simp [h0]
      go_enter Tryz.func70, Tryz.ntmps70
      go_wp2_with (first | (go_at_call 69; (with_reducible refine (MWidth_any _ _).mono ?_); rintro e w1 ⟨rfl, hb1⟩) | (go_at_call 87; (with_reducible refine (in_any _ _).mono ?_); rintro e w' ⟨rfl, rfl⟩) | (go_at_call 88; (with_reducible refine (made_any _ _ _ _ (by simp at *; omega) (by simp at *; omega) (by simp at *; omega) (by simp at *; omega) h0).mono ?_); rintro e w' ⟨rfl, rfl⟩))
      all_goals (go_ret2; exact ⟨by simp, by assumption⟩)
    · have hr' : 0 ≤ sym ∧ sym ≤ 65535 ∧ 0 ≤ place ∧ place ≤ 65535 ∧ 0 ≤ add ∧ add ≤ 65535 := by omega
      obtain ⟨r1, r2, r3, r4, r5, r6⟩ := hr'
      have h0' : (widthOf kind == 0) = false := by simp [h0]
      by_cases ho : kind = 5 ∧ (sym + add - place) % 2 = 1
      · have h1 : valueErr kind sym add place = 4 := by unfold valueErr; rw [if_neg h0, if_neg hr, if_pos ho]
        have h2 : valueNum kind sym add place = 0 := by unfold valueNum; rw [h1, if_neg (by omega)]
        have h3 : madeOk kind (sym + add) place = false := by simp [madeOk, ho]
        rw [h1, h2]
        clear h1 h2 ho hr
        go_enter Tryz.func70, Tryz.ntmps70
        go_wp2_with (first | (go_at_call 69; (with_reducible refine (MWidth_any _ _).mono ?_); rintro e w1 ⟨rfl, hb1⟩) | (go_at_call 87; (with_reducible refine (in_any _ _).mono ?_); rintro e w' ⟨rfl, rfl⟩) | (go_at_call 88; (with_reducible refine (made_any _ _ _ _ (by omega) (by omega) (by omega) (by omega) h0).mono ?_); rintro e w' ⟨rfl, rfl⟩))
        all_goals first | (go_ret2; exact ⟨by simp, by assumption⟩) | (exfalso; omega)
      · have h1 : valueErr kind sym add place = 0 := by unfold valueErr; rw [if_neg h0, if_neg hr, if_neg ho]
        have h2 : valueNum kind sym add place = madeNum kind (sym + add) place % p256 (widthOf kind).toNat := by
          unfold valueNum; rw [h1, if_pos rfl]
          congr 1
          have hd := tdiv2 (sym + add - place)
          unfold valueRaw madeNum
          (repeat' split) <;> first | rfl | (split at hd <;> omega)
        have h3 : madeOk kind (sym + add) place = true := by
          unfold madeOk; simp; omega
        have hw : widthOf kind = 2 ∨ widthOf kind = 3 ∨ widthOf kind = 4 := by rcases widthOf_cases kind with ⟨_, h⟩ | ⟨_, h⟩ | ⟨_, h⟩ | ⟨_, h⟩ | ⟨_, h⟩ | ⟨_, h⟩ <;> omega
        have hm := mask_w (widthOf kind) hw (madeNum kind (sym + add) place)
        rw [h1, h2]
        have h5 : 16 ≤ 8 * widthOf kind := by omega
        have h6 : 8 * widthOf kind ≤ 32 := by omega
        obtain ⟨k1, k2, _⟩ := pow2_facts (8 * widthOf kind).toNat (by omega) (by omega)
        have hp : wrap64 (2 ^ (8 * widthOf kind).toNat) = 2 ^ (8 * widthOf kind).toNat := IntWalk.wrap64_in _ (by omega)
        have HM := Lib.hid hm
        clear h1 h2 ho hr hm hw
        have h7 : 2 ≤ widthOf kind := by omega
        have h8 : widthOf kind ≤ 4 := by omega
        go_enter Tryz.func70, Tryz.ntmps70
        go_wp2_with (first | (go_at_call 69; (with_reducible refine (MWidth_any _ _).mono ?_); rintro e w1 ⟨rfl, hb1⟩) | (go_at_call 87; (with_reducible refine (in_any _ _).mono ?_); rintro e w' ⟨rfl, rfl⟩) | (go_at_call 88; (with_reducible refine (made_any _ _ _ _ (by omega) (by omega) (by omega) (by omega) h0).mono ?_); rintro e w' ⟨rfl, rfl⟩))
        go_ret2
        exact ⟨ret_ints HM.out rfl, hb1⟩

set_option maxHeartbeats 1000000 in
theorem ValueOf_any (kind sym add place : Int) (w : World) :
    Calls Tryz.prog 41 #[.int .i64 kind, .int .i64 sym, .int .i64 add, .int .i64 place] w fun e w' =>
      e = .returned (.tuple #[.int .i64 (valueNum kind sym add place), .int .i64 (valueErr kind sym add place)]) ∧ Below w.heap.size w w' := by
  have h5 := widthOf_cases kind
  by_cases h0 : widthOf kind = 0
  · have h1 : valueErr kind sym add place = 7 := by unfold valueErr; rw [if_pos h0]
    have h2 : valueNum kind sym add place = 0 := by unfold valueNum; rw [h1, if_neg (by omega)]
    rw [h1, h2]
    clear h1 h2 h5
    go_enter Tryz.func41, Tryz.ntmps41
    go_wp2_with (first | (go_at_call 40; (with_reducible refine (WidthOf_any _ _).mono ?_); rintro e w' ⟨rfl, rfl⟩) | (go_at_call 35; (with_reducible refine (between_t _ _ _ _ ?_ ?_).mono ?_); (focus (first | omega | assumption)); (focus (first | omega | assumption)); rintro e w' ⟨rfl, rfl⟩) | (go_at_call 35; (with_reducible refine (between_f _ _ _ _ ?_).mono ?_); (focus (first | omega | assumption)); rintro e w' ⟨rfl, rfl⟩) | (go_at_call 35; (with_reducible refine (between_any _ _ _ _).mono ?_); rintro e w' ⟨rfl, rfl⟩))
    all_goals (go_ret2; exact ⟨by simp, Below.refl _ _⟩)
  · by_cases hr : sym < 0 ∨ 65535 < sym ∨ place < 0 ∨ 65535 < place ∨ add < 0 ∨ 65535 < add
    · have h1 : valueErr kind sym add place = 3 := by unfold valueErr; rw [if_neg h0, if_pos hr]
      have h2 : valueNum kind sym add place = 0 := by unfold valueNum; rw [h1, if_neg (by omega)]
      rw [h1, h2]
      clear h1 h2 h5
      have h0' : (widthOf kind == 0) = false := by simp [h0]
      have hc : (sym < 0 ∨ 65535 < sym) ∨ (0 ≤ sym ∧ sym ≤ 65535 ∧ (place < 0 ∨ 65535 < place)) ∨ (0 ≤ sym ∧ sym ≤ 65535 ∧ 0 ≤ place ∧ place ≤ 65535 ∧ (add < 0 ∨ 65535 < add)) := by omega
      clear hr
      rcases hc with (hc | hc) | ⟨g1, g2, hc | hc⟩ | ⟨g1, g2, g3, g4, hc | hc⟩
      all_goals
        go_enter Tryz.func41, Tryz.ntmps41
        go_wp2_with (first | (go_at_call 40; (with_reducible refine (WidthOf_any _ _).mono ?_); rintro e w' ⟨rfl, rfl⟩) | (go_at_call 35; (with_reducible refine (between_t _ _ _ _ ?_ ?_).mono ?_); (focus (first | omega | assumption)); (focus (first | omega | assumption)); rintro e w' ⟨rfl, rfl⟩) | (go_at_call 35; (with_reducible refine (between_f _ _ _ _ ?_).mono ?_); (focus (first | omega | assumption)); rintro e w' ⟨rfl, rfl⟩) | (go_at_call 35; (with_reducible refine (between_any _ _ _ _).mono ?_); rintro e w' ⟨rfl, rfl⟩))
        go_ret2
        exact ⟨by simp, Below.refl _ _⟩
    · have hr' : 0 ≤ sym ∧ sym ≤ 65535 ∧ 0 ≤ place ∧ place ≤ 65535 ∧ 0 ≤ add ∧ add ≤ 65535 := by omega
      obtain ⟨r1, r2, r3, r4, r5, r6⟩ := hr'
      have p32 := fun W => (power_any 32 W (by omega) (by omega)).mono (fun _ _ h => (⟨h.1.trans (ret_int (by decide)), h.2⟩ : _ = Ending.returned (.int .i64 4294967296) ∧ _))
      have p24 := fun W => (power_any 24 W (by omega) (by omega)).mono (fun _ _ h => (⟨h.1.trans (ret_int (by decide)), h.2⟩ : _ = Ending.returned (.int .i64 16777216) ∧ _))
      have p16 := fun W => (power_any 16 W (by omega) (by omega)).mono (fun _ _ h => (⟨h.1.trans (ret_int (by decide)), h.2⟩ : _ = Ending.returned (.int .i64 65536) ∧ _))
      have P32 := Lib.hid p32
      have P24 := Lib.hid p24
      have P16 := Lib.hid p16
      clear p32 p24 p16
      have wk : ∀ k v, widthOf k = v → ∀ W, Calls Tryz.prog 40 #[.int .i64 k] W fun e w' => e = .returned (.int .i64 v) ∧ W = w' := fun k v hv W => (WidthOf_any k W).mono fun _ _ h => ⟨h.1.trans (ret_int hv), h.2⟩
      rcases h5 with ⟨rfl, hw⟩ | ⟨rfl, hw⟩ | ⟨rfl, hw⟩ | ⟨rfl, hw⟩ | ⟨rfl, hw⟩ | ⟨_, hw⟩
      · have h1 : valueErr 1 sym add place = 0 := by unfold valueErr; rw [if_neg h0, if_neg hr, if_neg (by omega)]
        have h2 : valueNum 1 sym add place = (sym + add) % 4294967296 := by unfold valueNum; rw [h1, if_pos rfl]; rfl
        rw [h1, h2]
        have WK := Lib.hid (wk _ _ hw)
        clear h1 h2 hr wk hw h0
        go_enter Tryz.func41, Tryz.ntmps41
        go_wp2_with (first | (go_at_call 40; (with_reducible refine (WK.out _).mono ?_); rintro e w' ⟨rfl, rfl⟩) | (go_at_call 35; (with_reducible refine (between_t _ _ _ _ ?_ ?_).mono ?_); (focus (first | omega | assumption)); (focus (first | omega | assumption)); rintro e w' ⟨rfl, rfl⟩) | (go_at_call 35; (with_reducible refine (between_f _ _ _ _ ?_).mono ?_); (focus (first | omega | assumption)); rintro e w' ⟨rfl, rfl⟩) | (go_at_call 35; (with_reducible refine (between_any _ _ _ _).mono ?_); rintro e w' ⟨rfl, rfl⟩) | (go_at_call 63; (with_reducible refine (P32.out _).mono ?_); rintro e w' ⟨rfl, rfl⟩) | (go_at_call 62; (with_reducible refine (modulo_any _ _ _ (by omega) (by omega)).mono ?_); rintro e w' ⟨rfl, rfl⟩))
        go_ret2
        exact ⟨by simp, Below.refl _ _⟩
      · have h1 : valueErr 2 sym add place = 0 := by unfold valueErr; rw [if_neg h0, if_neg hr, if_neg (by omega)]
        have h2 : valueNum 2 sym add place = (sym + add - place) % 4294967296 := by unfold valueNum; rw [h1, if_pos rfl]; rfl
        rw [h1, h2]
        have WK := Lib.hid (wk _ _ hw)
        clear h1 h2 hr wk hw h0
        go_enter Tryz.func41, Tryz.ntmps41
        go_wp2_with (first | (go_at_call 40; (with_reducible refine (WK.out _).mono ?_); rintro e w' ⟨rfl, rfl⟩) | (go_at_call 35; (with_reducible refine (between_t _ _ _ _ ?_ ?_).mono ?_); (focus (first | omega | assumption)); (focus (first | omega | assumption)); rintro e w' ⟨rfl, rfl⟩) | (go_at_call 35; (with_reducible refine (between_f _ _ _ _ ?_).mono ?_); (focus (first | omega | assumption)); rintro e w' ⟨rfl, rfl⟩) | (go_at_call 35; (with_reducible refine (between_any _ _ _ _).mono ?_); rintro e w' ⟨rfl, rfl⟩) | (go_at_call 63; (with_reducible refine (P32.out _).mono ?_); rintro e w' ⟨rfl, rfl⟩) | (go_at_call 62; (with_reducible refine (modulo_any _ _ _ (by omega) (by omega)).mono ?_); rintro e w' ⟨rfl, rfl⟩))
        go_ret2
        exact ⟨by simp, Below.refl _ _⟩
      · have h1 : valueErr 3 sym add place = 0 := by unfold valueErr; rw [if_neg h0, if_neg hr, if_neg (by omega)]
        have h2 : valueNum 3 sym add place = (sym + add) / 65536 % 65536 := by unfold valueNum; rw [h1, if_pos rfl]; rfl
        rw [h1, h2]
        have WK := Lib.hid (wk _ _ hw)
        clear h1 h2 hr wk hw h0
        go_enter Tryz.func41, Tryz.ntmps41
        go_wp2_with (first | (go_at_call 40; (with_reducible refine (WK.out _).mono ?_); rintro e w' ⟨rfl, rfl⟩) | (go_at_call 35; (with_reducible refine (between_t _ _ _ _ ?_ ?_).mono ?_); (focus (first | omega | assumption)); (focus (first | omega | assumption)); rintro e w' ⟨rfl, rfl⟩) | (go_at_call 35; (with_reducible refine (between_f _ _ _ _ ?_).mono ?_); (focus (first | omega | assumption)); rintro e w' ⟨rfl, rfl⟩) | (go_at_call 35; (with_reducible refine (between_any _ _ _ _).mono ?_); rintro e w' ⟨rfl, rfl⟩) | (go_at_call 63; (with_reducible refine (P16.out _).mono ?_); rintro e w' ⟨rfl, rfl⟩) | (go_at_call 62; (with_reducible refine (modulo_any _ _ _ (by omega) (by omega)).mono ?_); rintro e w' ⟨rfl, rfl⟩))
        go_ret2
        exact ⟨by simp, Below.refl _ _⟩
      · have h1 : valueErr 4 sym add place = 0 := by unfold valueErr; rw [if_neg h0, if_neg hr, if_neg (by omega)]
        have h2 : valueNum 4 sym add place = (sym + add) % 65536 := by unfold valueNum; rw [h1, if_pos rfl]; rfl
        rw [h1, h2]
        have WK := Lib.hid (wk _ _ hw)
        clear h1 h2 hr wk hw h0
        go_enter Tryz.func41, Tryz.ntmps41
        go_wp2_with (first | (go_at_call 40; (with_reducible refine (WK.out _).mono ?_); rintro e w' ⟨rfl, rfl⟩) | (go_at_call 35; (with_reducible refine (between_t _ _ _ _ ?_ ?_).mono ?_); (focus (first | omega | assumption)); (focus (first | omega | assumption)); rintro e w' ⟨rfl, rfl⟩) | (go_at_call 35; (with_reducible refine (between_f _ _ _ _ ?_).mono ?_); (focus (first | omega | assumption)); rintro e w' ⟨rfl, rfl⟩) | (go_at_call 35; (with_reducible refine (between_any _ _ _ _).mono ?_); rintro e w' ⟨rfl, rfl⟩) | (go_at_call 63; (with_reducible refine (P16.out _).mono ?_); rintro e w' ⟨rfl, rfl⟩) | (go_at_call 62; (with_reducible refine (modulo_any _ _ _ (by omega) (by omega)).mono ?_); rintro e w' ⟨rfl, rfl⟩))
        go_ret2
        exact ⟨by simp, Below.refl _ _⟩
      · have WK := Lib.hid (wk _ _ hw)
        have m1 := fun W => modulo_any (sym + add - place) 2 W (by omega) (by omega)
        have M1 := Lib.hid m1
        clear m1
        have hd := tdiv2 (sym + add - place)
        by_cases ho : (sym + add - place) % 2 = 1
        · have h1 : valueErr 5 sym add place = 4 := by unfold valueErr; rw [if_neg h0, if_neg hr, if_pos ⟨rfl, ho⟩]
          have h2 : valueNum 5 sym add place = 0 := by unfold valueNum; rw [h1, if_neg (by omega)]
          rw [h1, h2]
          clear h1 h2 hr wk hw h0 hd
          go_enter Tryz.func41, Tryz.ntmps41
          go_wp2_with (first | (go_at_call 40; (with_reducible refine (WK.out _).mono ?_); rintro e w' ⟨rfl, rfl⟩) | (go_at_call 35; (with_reducible refine (between_t _ _ _ _ ?_ ?_).mono ?_); (focus (first | omega | assumption)); (focus (first | omega | assumption)); rintro e w' ⟨rfl, rfl⟩) | (go_at_call 35; (with_reducible refine (between_f _ _ _ _ ?_).mono ?_); (focus (first | omega | assumption)); rintro e w' ⟨rfl, rfl⟩) | (go_at_call 35; (with_reducible refine (between_any _ _ _ _).mono ?_); rintro e w' ⟨rfl, rfl⟩) | (go_at_call 62; (with_reducible refine (M1.out _).mono ?_); rintro e w' ⟨rfl, rfl⟩))
          go_ret2
          exact ⟨by simp, Below.refl _ _⟩
        · have h1 : valueErr 5 sym add place = 0 := by unfold valueErr; rw [if_neg h0, if_neg hr, if_neg (by omega)]
          have h2 : valueNum 5 sym add place = (sym + add - place).tdiv 2 % 16777216 := by
            unfold valueNum; rw [h1, if_pos rfl]
            have e : valueRaw 5 sym add place = (sym + add - place) / 2 := by simp [valueRaw]
            rw [e]
            have e2 : (sym + add - place).tdiv 2 = (sym + add - place) / 2 := by split at hd <;> omega
            rw [e2]; rfl
          rw [h1, h2]
          have ho' : (sym + add - place) % 2 = 0 := by omega
          clear h1 h2 hr wk hw h0 hd ho
          go_enter Tryz.func41, Tryz.ntmps41
          go_wp2_with (first | (go_at_call 40; (with_reducible refine (WK.out _).mono ?_); rintro e w' ⟨rfl, rfl⟩) | (go_at_call 35; (with_reducible refine (between_t _ _ _ _ ?_ ?_).mono ?_); (focus (first | omega | assumption)); (focus (first | omega | assumption)); rintro e w' ⟨rfl, rfl⟩) | (go_at_call 35; (with_reducible refine (between_f _ _ _ _ ?_).mono ?_); (focus (first | omega | assumption)); rintro e w' ⟨rfl, rfl⟩) | (go_at_call 35; (with_reducible refine (between_any _ _ _ _).mono ?_); rintro e w' ⟨rfl, rfl⟩) | (go_at_call 62; (with_reducible refine (M1.out _).mono ?_); rintro e w' ⟨rfl, rfl⟩) | (go_at_call 63; (with_reducible refine (P24.out _).mono ?_); rintro e w' ⟨rfl, rfl⟩) | (go_at_call 62; (with_reducible refine (modulo_any _ _ _ ?_ ?_).mono ?_); (focus (first | omega | assumption)); (focus (first | omega | assumption)); rintro e w' ⟨rfl, rfl⟩))
          go_ret2
          exact ⟨by simp, Below.refl _ _⟩
      · exact absurd hw h0

end Go.Proofs.YtgkpbndeljnjcaaGreat
