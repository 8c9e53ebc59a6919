import Derived.Test.YtjlbcaiionmcnaaPatch2W
/- What the laws of chapter C begin with. -/
namespace Go.Proofs.Ytjlbcaiionmcnaa
open Go.RowKit

set_option maxHeartbeats 1000000 in
theorem patchBegun_any (w : World) :
    Calls Try.prog 23 #[] w fun e w' => e = .returned (.bool true) ∧ Below w.heap.size w w' := by
  have c1 : ∀ W, Calls Try.prog 17 #[.int .i64 5] W fun e w' => e = .returned (.tuple #[.int .i64 3, .int .i64 0]) ∧ Below W.heap.size W w' := fun W =>
    (PWidth_any 5 W).mono fun _ _ ⟨he, hw⟩ => ⟨he.trans (ret_ints (by decide +kernel) (by decide +kernel)), hw⟩
  have c2 : ∀ W, Calls Try.prog 18 #[.int .i64 2, .int .i64 100, .int .i64 4, .int .i64 200] W fun e w' => e = .returned (.tuple #[.int .i64 4294967200, .int .i64 0]) ∧ Below W.heap.size W w' := fun W =>
    (Value_any 2 100 4 200 W).mono fun _ _ ⟨he, hw⟩ => ⟨he.trans (ret_ints (by decide +kernel) (by decide +kernel)), hw⟩
  have c3 : ∀ W, Calls Try.prog 19 #[.string ⟨#[46, 46, 46, 46, 46, 46, 46, 46]⟩, .agg #[.int .i64 5, .int .i64 4, .int .i64 0, .int .i64 0], .int .i64 4, .int .i64 4096] W fun e w' => e = .returned (.tuple #[.string ⟨#[46, 46, 46, 46, 0, 248, 255, 46]⟩, .int .i64 0]) ∧ Below W.heap.size W w' := fun W =>
    (Apply_any ⟨#[46, 46, 46, 46, 46, 46, 46, 46]⟩ 5 4 0 0 4 4096 W (by decide)).mono fun _ _ ⟨he, hw⟩ => ⟨he.trans (ret_sint (ba_eq (by decide +kernel)) (by decide +kernel)), hw⟩
  have C1 := Lib.hid c1
  have C2 := Lib.hid c2
  have C3 := Lib.hid c3
  clear c1 c2 c3
  go_enter Try.func23, Try.ntmps23
  go_wp2_with (first | (go_at_call 17; (with_reducible refine (C1.out _).mono ?_); rintro e w1 ⟨rfl, hb1⟩) | (go_at_call 18; (with_reducible refine (C2.out _).mono ?_); rintro e w2 ⟨rfl, hb2⟩) | (go_at_call 19; (with_reducible refine (C3.out _).mono ?_); rintro e w3 ⟨rfl, hb3⟩))
  all_goals (go_ret; exact ⟨rfl, below_step hb1 (below_step hb2 (by assumption))⟩)
end Go.Proofs.Ytjlbcaiionmcnaa
