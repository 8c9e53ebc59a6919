import Derived.Test.YtjlbcaiionmcnaaWord2W
import Derived.Test.YtjlbcaiionmcnaaFrame
import Derived.Test.YtjlbcaiionmcnaaWordBegun
/- WordSigned: what word.Signed answers is the number, or that less all, and lies in its range. No condition. -/
namespace Go.Proofs.Ytjlbcaiionmcnaa
open Go.ChangeShapes Go.WideShapes Go.ChangeAt Go.RowKit Go.WideMaps Go.WideElems
open Go.ChangeMaps (setBlock shut_map_nil open_string shut_string keptBut_setBlock frozen?_setBlock heap_setBlock_same)

set_option maxHeartbeats 1000000 in
theorem WordSigned_any (n b : Int) (w : World) :
    Calls Try.prog 5 #[.int .i64 n, .int .i64 b] w fun e w' => e = .returned (.bool true) ∧ Below w.heap.size w w' := by
  by_cases he : signedErr n b = 0
  · have hb : 1 ≤ b ∧ b ≤ 32 ∧ 0 ≤ n ∧ n < 2 ^ b.toNat := by
      unfold signedErr at he
      split at he
      · cases he
      · split at he
        · cases he
        · omega
    obtain ⟨h1, h2, h3, h4⟩ := hb
    obtain ⟨k1, k2, k3⟩ := pow2_facts b.toNat (by omega) (by omega)
    have hn : signedNum n b = if 2 ^ b.toNat ≤ 2 * n then n - 2 ^ b.toNat else n := by
      unfold signedNum; rw [if_neg (by omega), if_neg (by omega)]
    have hp : wrap64 (2 ^ b.toNat) = 2 ^ b.toNat := IntWalk.wrap64_in _ (by omega)
    have HN := Lib.hid hn
    have K3 := Lib.hid k3
    clear hn k3
    go_enter Try.func5, Try.ntmps5
    go_wp2_with (first | (go_at_call 11; refine (Signed_any _ _ _).mono ?_; rintro e w' ⟨rfl, rfl⟩) | (go_at_call 16; refine (wordBegun_any _).mono ?_; rintro e w1 ⟨rfl, hb1⟩))
    all_goals
      go_ret
      have hn := HN.out
      have k3 := K3.out
      clear HN K3 hp
      generalize (2 : Int) ^ b.toNat = p at *
      have e : p.tdiv 2 = p / 2 := Int.tdiv_eq_ediv_of_nonneg (by omega)
      simp only [e] at *
      refine ⟨ret_bool ?_, by assumption⟩
      (try simp only [wrap64] at *)
      split at hn <;> first | (exfalso; omega) | (simp; omega)
  · have hn : signedNum n b = 0 := by
      unfold signedErr at he; unfold signedNum
      split
      · rfl
      · split
        · rfl
        · rename_i h1 h2; rw [if_neg h1, if_neg h2] at he; exact absurd rfl he
    go_enter Try.func5, Try.ntmps5
    go_wp2_with (first | (go_at_call 11; refine (Signed_any _ _ _).mono ?_; rintro e w' ⟨rfl, rfl⟩) | (go_at_call 16; refine (wordBegun_any _).mono ?_; rintro e w1 ⟨rfl, hb1⟩))
    all_goals (go_ret; exact ⟨rfl, by assumption⟩)

set_option maxRecDepth 100000 in
theorem wordSigned_lifted (os : Os) (started : os.Started) (H : Type) (enc : TypeId × Value → H) :
    ReturnsInHanded {} Try.checked os 5 .any (Rows.wordSignedSpec.pre6 enc Try.prog Try.f5 Rows.wordSignedRow.domain false) (Rows.wordSignedSpec.post enc Try.prog Try.f5 false true false false) := by
  refine returnsInHanded_of_change_sized (C := Try.checked) Try.own started (by kernel_rfl) Try.func5
    (ChangeSpec.witness6 (enc := enc) (C := Try.checked) false ⟨#[], #[.int .i64 0, .int .i64 0], []⟩ 8 (by kernel_rfl) (by kernel_rfl) (by kernel_rfl) (by kernel_rfl)) ?_
  intro W base args ds gs before hval0 hW hcnd hsz0 _
  have hval : ∀ (j : Nat) t v, Try.f5.params[j]? = some t → args[j]? = some v → Value.okWide Try.prog W .any base t v := hval0
  have hsz : (DataW.weightsEach Try.prog (Try.f5.params.toList ++ Rows.wordSignedSpec.plain.varTypes Try.prog) (ds ++ gs)).all (· ≤ reachBytes) = true := hsz0
  have hW' := hW
  obtain ⟨p, q, hA0, hV, rfl, hfz, hnd⟩ := hW
  have hA : DataW.TrodAll enc Try.prog W 0 (fun _ => true) true Try.f5.params.toList args.toList ds p := hA0
  rw [Try.params5] at hA hval hsz
  obtain ⟨v0, vs0, d0, ds0, p0, q0, hargs, rfl, rfl, h0, r0⟩ := trodAll_cons hA
  obtain ⟨v1, vs1, d1, ds1, p1, q1, rfl, rfl, rfl, h1, r1⟩ := trodAll_cons r0
  obtain ⟨rfl, rfl, rfl⟩ := trodAll_nil r1
  obtain rfl : args = #[v0, v1] := by cases args; simp_all
  obtain ⟨rfl, rfl⟩ := trodVars_none hV
  obtain ⟨n, rfl, rfl, rfl, w0⟩ := open_int Try.underlying3 (hval 0 3 v0 rfl rfl) h0
  obtain ⟨b, rfl, rfl, rfl, w1⟩ := open_int Try.underlying3 (hval 1 3 v1 rfl rfl) h1
  refine (WordSigned_any n b W ).mono fun e W' ⟨he, hb⟩ => ?_
  subst he
  exact ⟨_, rfl, law_post Try.laidOut hW' rfl (by decide +kernel) rfl Try.underlying4 rfl rfl rfl hb⟩

theorem wordSigned_holds : Rows.WordSignedSaid :=
  OpenClaim.holds_of_wide 5 Try.f5 rfl rfl rfl rfl rfl rfl rfl ⟨rfl, rfl, rfl, rfl, rfl⟩ rfl rfl rfl rfl rfl (by kernel_rfl) Try.func5 (by kernel_rfl)
    (of_decide_eq_true (by kernel_rfl)) (by unfold Func.isWrapper; first | (rw [if_pos (by decide +kernel)]; kernel_rfl) | (rw [if_neg (by decide +kernel)]; exact ⟨rfl, rfl⟩))
    (fun os started H enc _ => wordSigned_lifted os started H enc)
#print axioms wordSigned_holds


end Go.Proofs.Ytjlbcaiionmcnaa
