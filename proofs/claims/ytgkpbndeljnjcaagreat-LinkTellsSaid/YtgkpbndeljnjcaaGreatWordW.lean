import Derived.Test.YtgkpbndeljnjcaaGreatBase
/- The walks of package word and of the document's answer to chapter A. -/
namespace Go.Proofs.YtgkpbndeljnjcaaGreat
open Go.RowKit

set_option maxHeartbeats 400000 in
theorem between_any (n a b : Int) (w : World) :
    Calls Tryz.prog 35 #[.int .i64 n, .int .i64 a, .int .i64 b] w fun e w' => e = .returned (.bool (decide (a ≤ n) && decide (n ≤ b))) ∧ w = w' := by
  go_enter Tryz.func35, Tryz.ntmps35
  go_wp2_with fail
  all_goals (go_ret; exact ⟨ret_bool (by rw [Bool.eq_iff_iff]; simp; omega), rfl⟩)
theorem between_t (n a b : Int) (w : World) (h1 : a ≤ n) (h2 : n ≤ b) :
    Calls Tryz.prog 35 #[.int .i64 n, .int .i64 a, .int .i64 b] w fun e w' => e = .returned (.bool true) ∧ w = w' :=
  (between_any n a b w).mono fun _ _ h => ⟨h.1.trans (ret_bool (by simp; omega)), h.2⟩
theorem between_f (n a b : Int) (w : World) (h : n < a ∨ b < n) :
    Calls Tryz.prog 35 #[.int .i64 n, .int .i64 a, .int .i64 b] w fun e w' => e = .returned (.bool false) ∧ w = w' :=
  (between_any n a b w).mono fun _ _ h' => ⟨h'.1.trans (ret_bool (by simp; omega)), h'.2⟩

set_option maxHeartbeats 400000 in
theorem width_any (s : ByteArray) (at_ b : Int) (w : World) (hs : s.size ≤ 140737488351232) :
    Calls Tryz.prog 89 #[.string s, .int .i64 at_, .int .i64 b] w fun e w' => e = .returned (.int .i64 (checkWord s.size at_ b)) ∧ w = w' := by
  go_enter Tryz.func89, Tryz.ntmps89
  go_wp2_with fail
  all_goals (go_ret; exact ⟨ret_int (by unfold checkWord; (repeat' split) <;> first | rfl | omega), rfl⟩)



set_option maxHeartbeats 400000 in
theorem power_any (n : Int) (w : World) (h0 : 0 ≤ n) (h : n ≤ 32) :
    Calls Tryz.prog 63 #[.int .i64 n] w fun e w' => e = .returned (.int .i64 (2 ^ n.toNat)) ∧ w = w' := by
  go_enter Tryz.func63, Tryz.ntmps63
  go_wp2_with fail
  go_loop [3, 4] (fun x i => ∃ k : Nat, (k : Int) ≤ n ∧ i = .int .i64 k ∧ x = .int .i64 (2 ^ k)) (fun _ i => (n - intOf i).toNat)
  case atStart => exact ⟨0, by omega, rfl, rfl⟩
  case round =>
    obtain ⟨k, hk, rfl, rfl⟩ := hrel
    by_cases hlt : (k : Int) < n
    · have hp : (2 : Int) ^ k * 2 = 2 ^ (k + 1) := (Int.pow_succ 2 k).symm
      have hb : (2 : Int) ^ (k + 1) ≤ 4294967296 := (pow2_facts (k + 1) (by omega) (by omega)).2.1
      have hb0 : (2 : Int) ≤ 2 ^ (k + 1) := (pow2_facts (k + 1) (by omega) (by omega)).1
      have HP := Lib.hid hp
      have hq0 : (1 : Int) ≤ 2 ^ k := by omega
      have hq1 : (2 : Int) ^ k ≤ 4294967296 := by omega
      clear hp hb hb0
      go_wp2_with fail
      go_round
      case rel => exact ⟨k + 1, by omega, by go_num, by have := HP.out; rw [← this]; go_num⟩
      case measure => simp [intOf] <;> omega
    · obtain rfl : n = k := by omega
      go_wp2_with fail
      go_ret
      exact ⟨ret_int (by simp), rfl⟩

set_option maxHeartbeats 400000 in
theorem modulo_any (n m : Int) (w : World) (h0 : 1 ≤ m) (h : m ≤ 4294967296) :
    Calls Tryz.prog 62 #[.int .i64 n, .int .i64 m] w fun e w' => e = .returned (.int .i64 (n % m)) ∧ w = w' := by
  have e1 : n.tmod m = if 0 ≤ n ∨ n % m = 0 then n % m else n % m - m := by
    rw [Int.tmod_eq_emod]
    have : m.natAbs = m := by omega
    by_cases h1 : 0 ≤ n <;> by_cases h2 : n % m = 0 <;> simp [h1, h2, Int.dvd_iff_emod_eq_zero] <;> omega
  have b1 := Int.emod_nonneg n (show m ≠ 0 by omega)
  have b2 := Int.emod_lt_of_pos n (show 0 < m by omega)
  have H1 := Lib.hid e1
  clear e1
  go_enter Tryz.func62, Tryz.ntmps62
  go_wp2_with fail
  all_goals (go_ret; have e1 := H1.out; exact ⟨ret_int (by (try unfold wrap64); split at e1 <;> omega), rfl⟩)


theorem power8 (j : Nat) (w : World) (h : j ≤ 4) :
    Calls Tryz.prog 63 #[.int .i64 (8 * j)] w fun e w' => e = .returned (.int .i64 (p256 j)) ∧ w = w' :=
  (power_any _ w (by omega) (by omega)).mono fun _ _ ⟨he, hw⟩ => ⟨by rw [he, p256_pow, show (8 * (j : Int)).toNat = 8 * j from by omega], hw⟩



end Go.Proofs.YtgkpbndeljnjcaaGreat
