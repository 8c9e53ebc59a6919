import Derived.Test.YtjlbcaiionmcnaaWord2W
/- What the laws of chapter A begin with. -/
namespace Go.Proofs.Ytjlbcaiionmcnaa
open Go.RowKit

set_option maxHeartbeats 1000000 in
theorem wordBegun_any (w : World) :
    Calls Try.prog 16 #[] w fun e w' => e = .returned (.bool true) ∧ Below w.heap.size w w' := by
  have c1 : ∀ W, Calls Try.prog 9 #[.string ⟨#[97, 98, 99]⟩, .int .i64 1, .int .i64 2] W fun e w' => e = .returned (.tuple #[.int .i64 25442, .int .i64 0]) ∧ W = w' := fun W =>
    (Get_ok ⟨#[97, 98, 99]⟩ 1 2 W (by decide) (by decide)).mono fun _ _ ⟨he, hw⟩ => ⟨he.trans (ret_ints (by decide +kernel) rfl), hw⟩
  have c2 : ∀ W, Calls Try.prog 10 #[.string ⟨#[97, 98, 99]⟩, .int .i64 1, .int .i64 2, .int .i64 (-1)] W fun e w' => e = .returned (.tuple #[.string ⟨#[97, 255, 255]⟩, .int .i64 0]) ∧ Below W.heap.size W w' := fun W =>
    (Put_ok ⟨#[97, 98, 99]⟩ 1 2 (-1) W (by decide) (by decide)).mono fun _ _ ⟨he, hw⟩ => ⟨he.trans (ret_sint (ba_eq (by decide +kernel)) rfl), hw⟩
  have c3 : ∀ W, Calls Try.prog 11 #[.int .i64 255, .int .i64 8] W fun e w' => e = .returned (.tuple #[.int .i64 (-1), .int .i64 0]) ∧ W = w' := fun W =>
    (Signed_any 255 8 W).mono fun _ _ ⟨he, hw⟩ => ⟨he.trans (ret_ints (by decide +kernel) (by decide +kernel)), hw⟩
  have C1 := Lib.hid c1
  have C2 := Lib.hid c2
  have C3 := Lib.hid c3
  clear c1 c2 c3
  go_enter Try.func16, Try.ntmps16
  go_wp2_with (first | (go_at_call 9; refine (C1.out _).mono ?_; rintro e w' ⟨rfl, rfl⟩) | (go_at_call 10; refine (C2.out _).mono ?_; rintro e w1 ⟨rfl, hb1⟩) | (go_at_call 11; refine (C3.out _).mono ?_; rintro e w' ⟨rfl, rfl⟩))
  all_goals (go_ret; exact ⟨rfl, by assumption⟩)

end Go.Proofs.Ytjlbcaiionmcnaa
