import Derived.Test.YtpmjgkngkaleeaaBase
/- The walks of package word and of the document's answer to chapter A. -/
namespace Go.Proofs.Ytpmjgkngkaleeaa
open Go.RowKit

set_option maxHeartbeats 400000 in
theorem between_any (n a b : Int) (w : World) :
    Calls Try.prog 36 #[.int .i64 n, .int .i64 a, .int .i64 b] w fun e w' => e = .returned (.bool (decide (a ≤ n) && decide (n ≤ b))) ∧ w = w' := by
  go_enter Try.func36, Try.ntmps36
  go_wp2_with fail
  all_goals (go_ret; exact ⟨ret_bool (by rw [Bool.eq_iff_iff]; simp; omega), rfl⟩)
theorem between_t (n a b : Int) (w : World) (h1 : a ≤ n) (h2 : n ≤ b) :
    Calls Try.prog 36 #[.int .i64 n, .int .i64 a, .int .i64 b] w fun e w' => e = .returned (.bool true) ∧ w = w' :=
  (between_any n a b w).mono fun _ _ h => ⟨h.1.trans (ret_bool (by simp; omega)), h.2⟩
theorem between_f (n a b : Int) (w : World) (h : n < a ∨ b < n) :
    Calls Try.prog 36 #[.int .i64 n, .int .i64 a, .int .i64 b] w fun e w' => e = .returned (.bool false) ∧ w = w' :=
  (between_any n a b w).mono fun _ _ h' => ⟨h'.1.trans (ret_bool (by simp; omega)), h'.2⟩




set_option maxHeartbeats 400000 in
theorem power_any (n : Int) (w : World) (h0 : 0 ≤ n) (h : n ≤ 32) :
    Calls Try.prog 50 #[.int .i64 n] w fun e w' => e = .returned (.int .i64 (2 ^ n.toNat)) ∧ w = w' := by
  go_enter Try.func50, Try.ntmps50
  go_wp2_with fail
  go_loop [3, 4] (fun x i => ∃ k : Nat, (k : Int) ≤ n ∧ i = .int .i64 k ∧ x = .int .i64 (2 ^ k)) (fun _ i => (n - intOf i).toNat)
  case atStart => exact ⟨0, by omega, rfl, rfl⟩
  case round =>
    obtain ⟨k, hk, rfl, rfl⟩ := hrel
    by_cases hlt : (k : Int) < n
    · have hp : (2 : Int) ^ k * 2 = 2 ^ (k + 1) := (Int.pow_succ 2 k).symm
      have hb : (2 : Int) ^ (k + 1) ≤ 4294967296 := (pow2_facts (k + 1) (by omega) (by omega)).2.1
      have hb0 : (2 : Int) ≤ 2 ^ (k + 1) := (pow2_facts (k + 1) (by omega) (by omega)).1
      have HP := Lib.hid hp
      have hq0 : (1 : Int) ≤ 2 ^ k := by omega
      have hq1 : (2 : Int) ^ k ≤ 4294967296 := by omega
      clear hp hb hb0
      go_wp2_with fail
      go_round
      case rel => exact ⟨k + 1, by omega, by go_num, by have := HP.out; rw [← this]; go_num⟩
      case measure => simp [intOf] <;> omega
    · obtain rfl : n = k := by omega
      go_wp2_with fail
      go_ret
      exact ⟨ret_int (by simp), rfl⟩





end Go.Proofs.Ytpmjgkngkaleeaa
