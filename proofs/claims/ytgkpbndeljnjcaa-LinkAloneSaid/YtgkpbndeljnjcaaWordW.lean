import Derived.Test.YtgkpbndeljnjcaaBase
/- The walks of package word and of the document's answer to chapter A. -/
namespace Go.Proofs.Ytgkpbndeljnjcaa
open Go.RowKit

set_option maxHeartbeats 400000 in
theorem between_any (n a b : Int) (w : World) :
    Calls Try.prog 58 #[.int .i64 n, .int .i64 a, .int .i64 b] w fun e w' => e = .returned (.bool (decide (a ≤ n) && decide (n ≤ b))) ∧ w = w' := by
  go_enter Try.func58, Try.ntmps58
  go_wp2_with fail
  all_goals (go_ret; exact ⟨ret_bool (by rw [Bool.eq_iff_iff]; simp; omega), rfl⟩)
theorem between_t (n a b : Int) (w : World) (h1 : a ≤ n) (h2 : n ≤ b) :
    Calls Try.prog 58 #[.int .i64 n, .int .i64 a, .int .i64 b] w fun e w' => e = .returned (.bool true) ∧ w = w' :=
  (between_any n a b w).mono fun _ _ h => ⟨h.1.trans (ret_bool (by simp; omega)), h.2⟩
theorem between_f (n a b : Int) (w : World) (h : n < a ∨ b < n) :
    Calls Try.prog 58 #[.int .i64 n, .int .i64 a, .int .i64 b] w fun e w' => e = .returned (.bool false) ∧ w = w' :=
  (between_any n a b w).mono fun _ _ h' => ⟨h'.1.trans (ret_bool (by simp; omega)), h'.2⟩

set_option maxHeartbeats 400000 in
theorem width_any (s : ByteArray) (at_ b : Int) (w : World) (hs : s.size ≤ 140737488351232) :
    Calls Try.prog 124 #[.string s, .int .i64 at_, .int .i64 b] w fun e w' => e = .returned (.int .i64 (checkWord s.size at_ b)) ∧ w = w' := by
  go_enter Try.func124, Try.ntmps124
  go_wp2_with fail
  all_goals (go_ret; exact ⟨ret_int (by unfold checkWord; (repeat' split) <;> first | rfl | omega), rfl⟩)








end Go.Proofs.Ytgkpbndeljnjcaa
