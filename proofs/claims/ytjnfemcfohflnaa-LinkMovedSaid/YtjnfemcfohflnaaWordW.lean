import Derived.Test.YtjnfemcfohflnaaBase
/- The walks of package word and of the document's answer to chapter A. -/
namespace Go.Proofs.Ytjnfemcfohflnaa
open Go.RowKit


set_option maxHeartbeats 400000 in
theorem width_any (s : ByteArray) (at_ b : Int) (w : World) (hs : s.size ≤ 140737488351232) :
    Calls Try.prog 67 #[.string s, .int .i64 at_, .int .i64 b] w fun e w' => e = .returned (.int .i64 (checkWord s.size at_ b)) ∧ w = w' := by
  go_enter Try.func67, Try.ntmps67
  go_wp2_with fail
  all_goals (go_ret; exact ⟨ret_int (by unfold checkWord; (repeat' split) <;> first | rfl | omega), rfl⟩)









end Go.Proofs.Ytjnfemcfohflnaa
