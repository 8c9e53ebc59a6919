import Derived.Test.YtdpacbdejfjkcaaBase
/- The walks of package word and of the document's answer to chapter A. -/
namespace Go.Proofs.Ytdpacbdejfjkcaa
open Go.RowKit

set_option maxHeartbeats 400000 in
theorem between_any (n a b : Int) (w : World) :
    Calls Try.prog 43 #[.int .i64 n, .int .i64 a, .int .i64 b] w fun e w' => e = .returned (.bool (decide (a ≤ n) && decide (n ≤ b))) ∧ w = w' := by
  go_enter Try.func43, Try.ntmps43
  go_wp2_with fail
  all_goals (go_ret; exact ⟨ret_bool (by rw [Bool.eq_iff_iff]; simp; omega), rfl⟩)
theorem between_t (n a b : Int) (w : World) (h1 : a ≤ n) (h2 : n ≤ b) :
    Calls Try.prog 43 #[.int .i64 n, .int .i64 a, .int .i64 b] w fun e w' => e = .returned (.bool true) ∧ w = w' :=
  (between_any n a b w).mono fun _ _ h => ⟨h.1.trans (ret_bool (by simp; omega)), h.2⟩
theorem between_f (n a b : Int) (w : World) (h : n < a ∨ b < n) :
    Calls Try.prog 43 #[.int .i64 n, .int .i64 a, .int .i64 b] w fun e w' => e = .returned (.bool false) ∧ w = w' :=
  (between_any n a b w).mono fun _ _ h' => ⟨h'.1.trans (ret_bool (by simp; omega)), h'.2⟩

set_option maxHeartbeats 400000 in
theorem width_any (s : ByteArray) (at_ b : Int) (w : World) (hs : s.size ≤ 140737488351232) :
    Calls Try.prog 105 #[.string s, .int .i64 at_, .int .i64 b] w fun e w' => e = .returned (.int .i64 (checkWord s.size at_ b)) ∧ w = w' := by
  go_enter Try.func105, Try.ntmps105
  go_wp2_with fail
  all_goals (go_ret; exact ⟨ret_int (by unfold checkWord; (repeat' split) <;> first | rfl | omega), rfl⟩)



set_option maxHeartbeats 400000 in
theorem power_any (n : Int) (w : World) (h0 : 0 ≤ n) (h : n ≤ 32) :
    Calls Try.prog 93 #[.int .i64 n] w fun e w' => e = .returned (.int .i64 (2 ^ n.toNat)) ∧ w = w' := by
  go_enter Try.func93, Try.ntmps93
  go_wp2_with fail
  go_loop [3, 4] (fun x i => ∃ k : Nat, (k : Int) ≤ n ∧ i = .int .i64 k ∧ x = .int .i64 (2 ^ k)) (fun _ i => (n - intOf i).toNat)
  case atStart => exact ⟨0, by omega, rfl, rfl⟩
  case round =>
    obtain ⟨k, hk, rfl, rfl⟩ := hrel
    by_cases hlt : (k : Int) < n
    · have hp : (2 : Int) ^ k * 2 = 2 ^ (k + 1) := (Int.pow_succ 2 k).symm
      have hb : (2 : Int) ^ (k + 1) ≤ 4294967296 := (pow2_facts (k + 1) (by omega) (by omega)).2.1
      have hb0 : (2 : Int) ≤ 2 ^ (k + 1) := (pow2_facts (k + 1) (by omega) (by omega)).1
      have HP := Lib.hid hp
      have hq0 : (1 : Int) ≤ 2 ^ k := by omega
      have hq1 : (2 : Int) ^ k ≤ 4294967296 := by omega
      clear hp hb hb0
      go_wp2_with fail
      go_round
      case rel => exact ⟨k + 1, by omega, by go_num, by have := HP.out; rw [← this]; go_num⟩
      case measure => simp [intOf] <;> omega
    · obtain rfl : n = k := by omega
      go_wp2_with fail
      go_ret
      exact ⟨ret_int (by simp), rfl⟩

set_option maxHeartbeats 400000 in
theorem modulo_any (n m : Int) (w : World) (h0 : 1 ≤ m) (h : m ≤ 4294967296) :
    Calls Try.prog 92 #[.int .i64 n, .int .i64 m] w fun e w' => e = .returned (.int .i64 (n % m)) ∧ w = w' := by
  have e1 : n.tmod m = if 0 ≤ n ∨ n % m = 0 then n % m else n % m - m := by
    rw [Int.tmod_eq_emod]
    have : m.natAbs = m := by omega
    by_cases h1 : 0 ≤ n <;> by_cases h2 : n % m = 0 <;> simp [h1, h2, Int.dvd_iff_emod_eq_zero] <;> omega
  have b1 := Int.emod_nonneg n (show m ≠ 0 by omega)
  have b2 := Int.emod_lt_of_pos n (show 0 < m by omega)
  have H1 := Lib.hid e1
  clear e1
  go_enter Try.func92, Try.ntmps92
  go_wp2_with fail
  all_goals (go_ret; have e1 := H1.out; exact ⟨ret_int (by (try unfold wrap64); split at e1 <;> omega), rfl⟩)

set_option maxHeartbeats 400000 in
theorem Get_ok (s : ByteArray) (a k : Nat) (w : World) (hs : s.size ≤ 140737488351232) (hok : checkWord s.size a k = 0) :
    Calls Try.prog 91 #[.string s, .int .i64 a, .int .i64 k] w fun e w' => e = .returned (.tuple #[.int .i64 (num ((s.data.toList.drop a).take k)), .int .i64 0]) ∧ w = w' := by
  obtain ⟨h1, h2, h3, h4, h5⟩ := checkWord_ok hok
  go_enter Try.func91, Try.ntmps91
  go_wp2_with (go_at_call 105; refine (width_any _ _ _ _ hs).mono ?_; rintro e w' ⟨rfl, rfl⟩)
  go_loop [9, 10] (fun v i => ∃ j : Nat, j ≤ k ∧ i = .int .i64 ((a : Int) + j - 1) ∧ v = .int .i64 (num ((s.data.toList.drop (a + j)).take (k - j)))) (fun _ i => (intOf i + 1 - a).toNat)
  case atStart => exact ⟨k, by omega, by go_num, by simp [num]⟩
  case round =>
    obtain ⟨j, hj, rfl, rfl⟩ := hrel
    by_cases hlt : 0 < j
    · have hb0 := num_nonneg ((s.data.toList.drop (a + j)).take (k - j))
      have hsz : (a : Int) + j - 1 < s.size := by omega
      go_wp2_with fail
      go_round
      case rel =>
        refine ⟨j - 1, by omega, by go_num, ?_⟩
        have hlen : a + (j - 1) < s.data.toList.length := by have : s.data.toList.length = s.size := rfl; omega
        have e1 := drop_take_succ s.data.toList (a + (j - 1)) (k - j) hlen
        rw [show a + (j - 1) + 1 = a + j from by omega, show k - j + 1 = k - (j - 1) from by omega] at e1
        have hb1 : num ((s.data.toList.drop (a + j)).take (k - j)) < 16777216 := by
          refine Int.lt_of_lt_of_le (num_lt _) ?_
          have hl : ((s.data.toList.drop (a + j)).take (k - j)).length ≤ 3 := by simp; omega
          generalize ((s.data.toList.drop (a + j)).take (k - j)).length = q at hl
          have : ∀ q : Fin 4, p256 q.val ≤ 16777216 := by decide
          exact this ⟨q, by omega⟩
        rw [e1]
        simp only [num]
        rw [or_byte _ _ hb0 hb1 (UInt8.toNat_lt _)]
        congr 1
        have : s.data.toList[a + (j - 1)] = s[a + j - 1] := by simp [show a + (j - 1) = a + j - 1 from by omega]; rfl
        rw [this]; omega
      case measure => simp [intOf] <;> omega
    · obtain rfl : j = 0 := by omega
      go_wp2_with fail
      go_ret2
      exact ⟨rfl, rfl⟩

set_option maxHeartbeats 400000 in
theorem Get_no (s : ByteArray) (a k : Int) (w : World) (hs : s.size ≤ 140737488351232) (hno : checkWord s.size a k ≠ 0) :
    Calls Try.prog 91 #[.string s, .int .i64 a, .int .i64 k] w fun e w' => e = .returned (.tuple #[.int .i64 0, .int .i64 (checkWord s.size a k)]) ∧ w = w' := by
  go_enter Try.func91, Try.ntmps91
  go_wp2_with (go_at_call 105; refine (width_any _ _ _ _ hs).mono ?_; rintro e w' ⟨rfl, rfl⟩)
  all_goals (go_ret2; exact ⟨rfl, rfl⟩)

theorem power8 (j : Nat) (w : World) (h : j ≤ 4) :
    Calls Try.prog 93 #[.int .i64 (8 * j)] w fun e w' => e = .returned (.int .i64 (p256 j)) ∧ w = w' :=
  (power_any _ w (by omega) (by omega)).mono fun _ _ ⟨he, hw⟩ => ⟨by rw [he, p256_pow, show (8 * (j : Int)).toNat = 8 * j from by omega], hw⟩

set_option maxHeartbeats 400000 in
theorem GetOf_ok (s : ByteArray) (a k : Nat) (w : World) (hs : s.size ≤ 140737488351232) (hok : checkWord s.size a k = 0) :
    Calls Try.prog 94 #[.string s, .int .i64 a, .int .i64 k] w fun e w' => e = .returned (.int .i64 (num ((s.data.toList.drop a).take k))) ∧ Below w.heap.size w w' := by
  obtain ⟨h1, h2, h3, h4, h5⟩ := checkWord_ok hok
  go_enter Try.func94, Try.ntmps94
  go_wp2_with fail
  go_loopw [7, 8] (fun v i wr => ∃ j : Nat, j ≤ k ∧ i = .int .i64 j ∧ v = .int .i64 (num ((s.data.toList.drop a).take j)) ∧ Below w.heap.size w wr) (fun _ i _ => k - (intOf i).toNat)
  case atStart => exact ⟨0, by omega, by go_num, by simp [num], Below.refl _ _⟩
  case round =>
    obtain ⟨j, hj, rfl, rfl, hbl⟩ := hrel
    by_cases hlt : j < k
    · have hsz : a + j < s.size := by omega
      have q1 : IntKind.i64.wrap ((a : Int) + j) = (a : Int) + j := IntWalk.i64_in _ (by omega)
      have q2 : (0 : Int) ≤ (a : Int) + j := by omega
      have q3 : ((a : Int) + j).toNat = a + j := by omega
      have q4 : IntKind.i64.wrap (8 * (j : Int)) = 8 * (j : Int) := IntWalk.i64_in _ (by omega)
      have q5 : (a : Int) + j < s.size := by omega
      go_wp2_with fail
      go_quiet ((go_at_call 93; exact quiet_left (power8 _ _ (by omega))))
      clear q4
      go_wp2_with fail
      go_roundw
      case rel =>
        refine ⟨j + 1, by omega, by go_num, ?_, below_drewN hbl _⟩
        have hlen : a + j < s.data.toList.length := by have : s.data.toList.length = s.size := rfl; omega
        have e1 : (s.data.toList.drop a).take (j + 1) = (s.data.toList.drop a).take j ++ [s[a + j]] := by
          rw [List.take_succ_eq_append_getElem (by simp; omega)]; simp; rfl
        have hl : ((s.data.toList.drop a).take j).length = j := by simp; omega
        have hb0 := num_nonneg ((s.data.toList.drop a).take j)
        have hb1 := num_lt ((s.data.toList.drop a).take j)
        have hp := p256_le j (by omega)
        have hp0 := p256_pos j
        rw [e1, num_snoc, hl]
        rw [hl] at hb1
        have hc := UInt8.toNat_lt s[a + j]
        have hm0 : 0 ≤ (s[a + j].toNat : Int) * p256 j := Int.mul_nonneg (by omega) (by omega)
        have hm1 : (s[a + j].toNat : Int) * p256 j ≤ 256 * 4294967296 := Int.mul_le_mul (by omega) hp (by omega) (by omega)
        have w1 : wrap64 (s[a + j].toNat : Int) = s[a + j].toNat := IntWalk.wrap64_in _ (by omega)
        rw [w1]
        generalize (s[a + j].toNat : Int) * p256 j = q at *
        rw [IntWalk.wrap64_in q (by omega), IntWalk.wrap64_in _ (by omega)]
      case measure => simp [intOf] <;> omega
    · obtain rfl : j = k := by omega
      go_wp2_with fail
      go_ret
      exact ⟨rfl, hbl⟩


end Go.Proofs.Ytdpacbdejfjkcaa
