import Derived.Test.YtjnfemcfohflnaaWord2W
/- The walks of package patch and of the document's answer to chapter C. -/
namespace Go.Proofs.Ytjnfemcfohflnaa
open Go.RowKit

set_option maxHeartbeats 400000 in
theorem within_any (n a b : Int) (w : World) :
    Calls Try.prog 44 #[.int .i64 n, .int .i64 a, .int .i64 b] w fun e w' => e = .returned (.bool (decide (a ≤ n) && decide (n ≤ b))) ∧ w = w' := by
  go_enter Try.func44, Try.ntmps44
  go_wp2_with fail
  all_goals (go_ret; exact ⟨ret_bool (by rw [Bool.eq_iff_iff]; simp; omega), rfl⟩)

theorem within_t (n a b : Int) (w : World) (h1 : a ≤ n) (h2 : n ≤ b) :
    Calls Try.prog 44 #[.int .i64 n, .int .i64 a, .int .i64 b] w fun e w' => e = .returned (.bool true) ∧ w = w' :=
  (within_any n a b w).mono fun _ _ h => ⟨h.1.trans (ret_bool (by simp; omega)), h.2⟩
theorem within_f (n a b : Int) (w : World) (h : n < a ∨ b < n) :
    Calls Try.prog 44 #[.int .i64 n, .int .i64 a, .int .i64 b] w fun e w' => e = .returned (.bool false) ∧ w = w' :=
  (within_any n a b w).mono fun _ _ h' => ⟨h'.1.trans (ret_bool (by simp; omega)), h'.2⟩

set_option maxHeartbeats 1000000 in
theorem MWidth_any (k : Int) (w : World) :
    Calls Try.prog 48 #[.int .i64 k] w fun e w' => e = .returned (.int .i64 (widthOf k)) ∧ Below w.heap.size w w' := by
  rcases widthOf_cases k with ⟨rfl, h⟩ | ⟨rfl, h⟩ | ⟨rfl, h⟩ | ⟨rfl, h⟩ | ⟨rfl, h⟩ | ⟨hk, h⟩
  all_goals
    have H := Lib.hid h
    clear h
    go_enter Try.func48, Try.ntmps48
    go_wp2_with (first | (go_at_call 44; (with_reducible refine (within_t _ _ _ _ ?_ ?_).mono ?_); (focus (first | omega | assumption)); (focus (first | omega | assumption)); rintro e w' ⟨rfl, rfl⟩) | (go_at_call 44; (with_reducible refine (within_f _ _ _ _ ?_).mono ?_); (focus (first | omega | assumption)); rintro e w' ⟨rfl, rfl⟩) | (go_at_call 44; (with_reducible refine (within_any _ _ _ _).mono ?_); rintro e w' ⟨rfl, rfl⟩))
  all_goals first | (go_ret; rw [H.out]; first | exact ⟨rfl, Below.refl _ _⟩ | exact ⟨rfl, (Below.refl _ _).alloc (Nat.le_refl _) _⟩) | (exfalso; simp at *; omega)

set_option maxHeartbeats 400000 in
theorem WidthOf_any (k : Int) (w : World) :
    Calls Try.prog 7 #[.int .i64 k] w fun e w' => e = .returned (.int .i64 (widthOf k)) ∧ w = w' := by
  go_enter Try.func7, Try.ntmps7
  go_wp2_with fail
  all_goals (go_ret; exact ⟨ret_int (by simp at *; unfold widthOf; (repeat' split) <;> omega), rfl⟩)


def madeNum (kind sum place : Int) : Int := if kind = 2 then sum - place else if kind = 3 then sum / 65536 else if kind = 5 then (sum - place).tdiv 2 else sum
def madeOk (kind sum place : Int) : Bool := !(decide (kind = 5) && decide ((sum - place) % 2 = 1))

set_option maxHeartbeats 1000000 in
theorem made_any (kind sum place : Int) (w : World) (h1 : 0 ≤ sum) (h2 : sum ≤ 131070) (h3 : 0 ≤ place) (h4 : place ≤ 65535) (hk : widthOf kind ≠ 0) :
    Calls Try.prog 66 #[.int .i64 kind, .int .i64 sum, .int .i64 place] w fun e w' =>
      e = .returned (.tuple #[.int .i64 (madeNum kind sum place), .bool (madeOk kind sum place)]) ∧ w = w' := by
  have HD := Lib.hid (tdiv2 (sum - place))
  have HM := Lib.hid (tmod2 (sum - place))
  rcases widthOf_cases kind with ⟨rfl, h⟩ | ⟨rfl, h⟩ | ⟨rfl, h⟩ | ⟨rfl, h⟩ | ⟨rfl, h⟩ | ⟨_, h⟩
  · clear h hk
    go_enter Try.func66, Try.ntmps66
    go_wp2_with fail
    go_ret2
    exact ⟨by simp [madeNum, madeOk], rfl⟩
  · clear h hk
    go_enter Try.func66, Try.ntmps66
    go_wp2_with fail
    go_ret2
    exact ⟨by simp [madeNum, madeOk], rfl⟩
  · clear h hk
    go_enter Try.func66, Try.ntmps66
    go_wp2_with fail
    go_ret2
    exact ⟨by simp [madeNum, madeOk], rfl⟩
  · clear h hk
    go_enter Try.func66, Try.ntmps66
    go_wp2_with fail
    go_ret2
    exact ⟨by simp [madeNum, madeOk], rfl⟩
  · clear h hk
    go_enter Try.func66, Try.ntmps66
    go_wp2_with fail
    all_goals
      have hd := HD.out
      have hm := HM.out
      clear HD HM
      go_ret2
      refine ⟨?_, rfl⟩
      have e : madeOk 5 sum place = decide ((sum - place).tmod 2 = 0) := by
        unfold madeOk; rw [Bool.eq_iff_iff]; simp; split at hm <;> omega
      rw [e]
      simp [madeNum]
      try (split at hm <;> split at hd <;> omega)
  · exact absurd h hk

theorem in_any (n : Int) (w : World) :
    Calls Try.prog 65 #[.int .i64 n] w fun e w' => e = .returned (.bool (decide (0 ≤ n) && decide (n < 65536))) ∧ w = w' := by
  go_enter Try.func65, Try.ntmps65
  go_wp2_with fail
  all_goals (go_ret; exact ⟨ret_bool (by rw [Bool.eq_iff_iff]; simp; omega), rfl⟩)
theorem mask_w (w : Int) (h : w = 2 ∨ w = 3 ∨ w = 4) (n : Int) : bits .and .i64 n (2 ^ (8 * w).toNat - 1) = n % p256 w.toNat := by
  rcases h with rfl | rfl | rfl
  · exact (and_mask n 16 (by omega)).trans rfl
  · exact (and_mask n 24 (by omega)).trans rfl
  · exact (and_mask n 32 (by omega)).trans rfl

set_option maxHeartbeats 1000000 in
theorem Value_any (kind sym add place : Int) (w : World) :
    Calls Try.prog 49 #[.int .i64 kind, .int .i64 sym, .int .i64 add, .int .i64 place] w fun e w' =>
      e = .returned (.tuple #[.int .i64 (valueNum kind sym add place), .int .i64 (valueErr kind sym add place)]) ∧ Below w.heap.size w w' := by
  by_cases h0 : widthOf kind = 0
  · have h1 : valueErr kind sym add place = 7 := by unfold valueErr; rw [if_pos h0]
    have h2 : valueNum kind sym add place = 0 := by unfold valueNum; rw [h1, if_neg (by omega)]
    rw [h1, h2]
    clear h1 h2
    go_enter Try.func49, Try.ntmps49
    go_wp2_with (first | (go_at_call 48; (with_reducible refine (MWidth_any _ _).mono ?_); rintro e w1 ⟨rfl, hb1⟩) | (go_at_call 65; (with_reducible refine (in_any _ _).mono ?_); rintro e w' ⟨rfl, rfl⟩))
    all_goals (go_ret2; exact ⟨by simp, by assumption⟩)
  · by_cases hr : sym < 0 ∨ 65535 < sym ∨ place < 0 ∨ 65535 < place ∨ add < 0 ∨ 65535 < add
    · have h1 : valueErr kind sym add place = 3 := by unfold valueErr; rw [if_neg h0, if_pos hr]
      have h2 : valueNum kind sym add place = 0 := by unfold valueNum; rw [h1, if_neg (by omega)]
      rw [h1, h2]
      clear h1 h2
      have h0' : (widthOf kind == 0) = false := by simp [h0]
      go_enter Try.func49, Try.ntmps49
      go_wp2_with (first | (go_at_call 48; (with_reducible refine (MWidth_any _ _).mono ?_); rintro e w1 ⟨rfl, hb1⟩) | (go_at_call 65; (with_reducible refine (in_any _ _).mono ?_); rintro e w' ⟨rfl, rfl⟩) | (go_at_call 66; (with_reducible refine (made_any _ _ _ _ (by simp at *; omega) (by simp at *; omega) (by simp at *; omega) (by simp at *; omega) h0).mono ?_); rintro e w' ⟨rfl, rfl⟩))
      all_goals (go_ret2; exact ⟨by simp, by assumption⟩)
    · have hr' : 0 ≤ sym ∧ sym ≤ 65535 ∧ 0 ≤ place ∧ place ≤ 65535 ∧ 0 ≤ add ∧ add ≤ 65535 := by omega
      obtain ⟨r1, r2, r3, r4, r5, r6⟩ := hr'
      have h0' : (widthOf kind == 0) = false := by simp [h0]
      by_cases ho : kind = 5 ∧ (sym + add - place) % 2 = 1
      · have h1 : valueErr kind sym add place = 4 := by unfold valueErr; rw [if_neg h0, if_neg hr, if_pos ho]
        have h2 : valueNum kind sym add place = 0 := by unfold valueNum; rw [h1, if_neg (by omega)]
        have h3 : madeOk kind (sym + add) place = false := by simp [madeOk, ho]
        rw [h1, h2]
        clear h1 h2 ho hr
        go_enter Try.func49, Try.ntmps49
        go_wp2_with (first | (go_at_call 48; (with_reducible refine (MWidth_any _ _).mono ?_); rintro e w1 ⟨rfl, hb1⟩) | (go_at_call 65; (with_reducible refine (in_any _ _).mono ?_); rintro e w' ⟨rfl, rfl⟩) | (go_at_call 66; (with_reducible refine (made_any _ _ _ _ (by omega) (by omega) (by omega) (by omega) h0).mono ?_); rintro e w' ⟨rfl, rfl⟩))
        all_goals first | (go_ret2; exact ⟨by simp, by assumption⟩) | (exfalso; omega)
      · have h1 : valueErr kind sym add place = 0 := by unfold valueErr; rw [if_neg h0, if_neg hr, if_neg ho]
        have h2 : valueNum kind sym add place = madeNum kind (sym + add) place % p256 (widthOf kind).toNat := by
          unfold valueNum; rw [h1, if_pos rfl]
          congr 1
          have hd := tdiv2 (sym + add - place)
          unfold valueRaw madeNum
          (repeat' split) <;> first | rfl | (split at hd <;> omega)
        have h3 : madeOk kind (sym + add) place = true := by
          unfold madeOk; simp; omega
        have hw : widthOf kind = 2 ∨ widthOf kind = 3 ∨ widthOf kind = 4 := by rcases widthOf_cases kind with ⟨_, h⟩ | ⟨_, h⟩ | ⟨_, h⟩ | ⟨_, h⟩ | ⟨_, h⟩ | ⟨_, h⟩ <;> omega
        have hm := mask_w (widthOf kind) hw (madeNum kind (sym + add) place)
        rw [h1, h2]
        have h5 : 16 ≤ 8 * widthOf kind := by omega
        have h6 : 8 * widthOf kind ≤ 32 := by omega
        obtain ⟨k1, k2, _⟩ := pow2_facts (8 * widthOf kind).toNat (by omega) (by omega)
        have hp : wrap64 (2 ^ (8 * widthOf kind).toNat) = 2 ^ (8 * widthOf kind).toNat := IntWalk.wrap64_in _ (by omega)
        have HM := Lib.hid hm
        clear h1 h2 ho hr hm hw
        have h7 : 2 ≤ widthOf kind := by omega
        have h8 : widthOf kind ≤ 4 := by omega
        go_enter Try.func49, Try.ntmps49
        go_wp2_with (first | (go_at_call 48; (with_reducible refine (MWidth_any _ _).mono ?_); rintro e w1 ⟨rfl, hb1⟩) | (go_at_call 65; (with_reducible refine (in_any _ _).mono ?_); rintro e w' ⟨rfl, rfl⟩) | (go_at_call 66; (with_reducible refine (made_any _ _ _ _ (by omega) (by omega) (by omega) (by omega) h0).mono ?_); rintro e w' ⟨rfl, rfl⟩))
        go_ret2
        exact ⟨ret_ints HM.out rfl, hb1⟩


end Go.Proofs.Ytjnfemcfohflnaa
