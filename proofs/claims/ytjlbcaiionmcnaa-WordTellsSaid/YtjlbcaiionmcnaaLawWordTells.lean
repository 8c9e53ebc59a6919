import Derived.Test.YtjlbcaiionmcnaaWord2W
import Derived.Test.YtjlbcaiionmcnaaFrame
import Derived.Test.YtjlbcaiionmcnaaWordBegun
/- WordTells: word.Get, Put and Signed answer just what the document's answer does, errors too. No condition. -/
namespace Go.Proofs.Ytjlbcaiionmcnaa
open Go.ChangeShapes Go.WideShapes Go.ChangeAt Go.RowKit Go.WideMaps Go.WideElems
open Go.ChangeMaps (setBlock shut_map_nil open_string shut_string keptBut_setBlock frozen?_setBlock heap_setBlock_same)

set_option maxHeartbeats 1000000 in
theorem WordTells_any (s : ByteArray) (at_ b n bits : Int) (w : World) (hs : s.size ≤ 140737488351232) :
    Calls Try.prog 3 #[.string s, .int .i64 at_, .int .i64 b, .int .i64 n, .int .i64 bits] w fun e w' => e = .returned (.bool true) ∧ Below w.heap.size w w' := by
  by_cases hok : checkWord s.size at_ b = 0
  · obtain ⟨h1, h2, h3, h4, h5⟩ := checkWord_ok hok
    obtain ⟨a, rfl⟩ := Int.eq_ofNat_of_zero_le h3
    obtain ⟨k, rfl⟩ := Int.eq_ofNat_of_zero_le (show 0 ≤ b by omega)
    have OK := Lib.hid hok
    have c1 := Lib.hid (fun W => (CheckWord_any s a k W hs).mono (fun _ _ h => (⟨h.1.trans (ret_int hok), h.2⟩ : _ = Ending.returned (.int .i64 0) ∧ _)))
    clear hok
    go_enter Try.func3, Try.ntmps3
    go_wp2_with (first | (go_at_call 9; with_reducible refine (Get_ok _ _ _ _ hs OK.out).mono ?_; rintro e w' ⟨rfl, rfl⟩) | (go_at_call 10; with_reducible refine (Put_ok _ _ _ _ _ hs OK.out).mono ?_; rintro e w1 ⟨rfl, hb1⟩) | (go_at_call 11; with_reducible refine (Signed_any _ _ _).mono ?_; rintro e w' ⟨rfl, rfl⟩) | (go_at_call 12; with_reducible refine (c1.out _).mono ?_; rintro e w' ⟨rfl, rfl⟩) | (go_at_call 13; with_reducible refine (GetOf_ok _ _ _ _ hs OK.out).mono ?_; rintro e w2 ⟨rfl, hb2⟩))
    obtain ⟨f1, f2, f3, f4, f5, f6⟩ := splice_facts (P := Try.prog) s ⟨(digits n k).toArray⟩ a k hs (by simp [ByteArray.size, digits_length]; omega) (by omega)
    have EQ := Lib.hid ((splice_eq s a k (digits n k)).trans (rfl : _ = putStr s a k n))
    go_region_held3 (fun w' => Below w2.heap.size w2 w') (first | exact Below.refl _ _ | exact Below.drew (Below.refl _ _) | exact below_step (by assumption) (by assumption) | exact Below.drew (by assumption) | assumption)
      (first | (go_at_call 14; refine (BytesOf_any _ _ _ (by omega)).mono ?_; rintro e w3 ⟨rfl, hb3⟩))
    rw [EQ.out]
    clear f1 f2 f3 f4 f5 f6 EQ
    go_wp2_with (first | (go_at_call 15; with_reducible refine (SignedOf_any _ _ _).mono ?_; rintro e w4 ⟨rfl, hb4⟩) | (go_at_call 16; with_reducible refine (wordBegun_any _).mono ?_; rintro e w5 ⟨rfl, hb5⟩))
    go_ret
    exact ⟨by simp, below_step hb1 (below_step hb2 (below_step (by assumption) (below_step hb4 hb5)))⟩
  · have c1 := Lib.hid (fun W => CheckWord_any s at_ b W hs)
    go_enter Try.func3, Try.ntmps3
    go_wp2_with (first | (go_at_call 9; with_reducible refine (Get_no _ _ _ _ hs hok).mono ?_; rintro e w' ⟨rfl, rfl⟩) | (go_at_call 10; with_reducible refine (Put_no _ _ _ _ _ hs hok).mono ?_; rintro e w' ⟨rfl, rfl⟩) | (go_at_call 11; with_reducible refine (Signed_any _ _ _).mono ?_; rintro e w' ⟨rfl, rfl⟩) | (go_at_call 12; with_reducible refine (c1.out _).mono ?_; rintro e w' ⟨rfl, rfl⟩) | (go_at_call 15; with_reducible refine (SignedOf_any _ _ _).mono ?_; rintro e w4 ⟨rfl, hb4⟩) | (go_at_call 16; with_reducible refine (wordBegun_any _).mono ?_; rintro e w5 ⟨rfl, hb5⟩))
    all_goals (go_ret; exact ⟨by simp, below_step hb4 hb5⟩)

set_option maxRecDepth 100000 in
theorem wordTells_lifted (os : Os) (started : os.Started) (H : Type) (enc : TypeId × Value → H) :
    ReturnsInHanded {} Try.checked os 3 .any (Rows.wordTellsSpec.pre6 enc Try.prog Try.f3 Rows.wordTellsRow.domain false) (Rows.wordTellsSpec.post enc Try.prog Try.f3 false true false false) := by
  refine returnsInHanded_of_change_sized (C := Try.checked) Try.own started (by kernel_rfl) Try.func3
    (ChangeSpec.witness6 (enc := enc) (C := Try.checked) false ⟨#[], #[.string ⟨#[]⟩, .int .i64 0, .int .i64 0, .int .i64 0, .int .i64 0], []⟩ 8 (by kernel_rfl) (by kernel_rfl) (by kernel_rfl) (by kernel_rfl)) ?_
  intro W base args ds gs before hval0 hW hcnd hsz0 _
  have hval : ∀ (j : Nat) t v, Try.f3.params[j]? = some t → args[j]? = some v → Value.okWide Try.prog W .any base t v := hval0
  have hsz : (DataW.weightsEach Try.prog (Try.f3.params.toList ++ Rows.wordTellsSpec.plain.varTypes Try.prog) (ds ++ gs)).all (· ≤ reachBytes) = true := hsz0
  have hW' := hW
  obtain ⟨p, q, hA0, hV, rfl, hfz, hnd⟩ := hW
  have hA : DataW.TrodAll enc Try.prog W 0 (fun _ => true) true Try.f3.params.toList args.toList ds p := hA0
  rw [Try.params3] at hA hval hsz
  obtain ⟨v0, vs0, d0, ds0, p0, q0, hargs, rfl, rfl, h0, r0⟩ := trodAll_cons hA
  obtain ⟨v1, vs1, d1, ds1, p1, q1, rfl, rfl, rfl, h1, r1⟩ := trodAll_cons r0
  obtain ⟨v2, vs2, d2, ds2, p2, q2, rfl, rfl, rfl, h2, r2⟩ := trodAll_cons r1
  obtain ⟨v3, vs3, d3, ds3, p3, q3, rfl, rfl, rfl, h3, r3⟩ := trodAll_cons r2
  obtain ⟨v4, vs4, d4, ds4, p4, q4, rfl, rfl, rfl, h4, r4⟩ := trodAll_cons r3
  obtain ⟨rfl, rfl, rfl⟩ := trodAll_nil r4
  obtain rfl : args = #[v0, v1, v2, v3, v4] := by cases args; simp_all
  obtain ⟨rfl, rfl⟩ := trodVars_none hV
  obtain ⟨s, rfl, rfl, rfl, w0⟩ := open_string Try.underlying9 (hval 0 9 v0 rfl rfl) h0
  have z0 : s.size ≤ 140737488351232 := by have := sized_string hsz (j := 0) (t := 9) rfl rfl; simpa [reachBytes] using this
  obtain ⟨at_, rfl, rfl, rfl, w1⟩ := open_int Try.underlying3 (hval 1 3 v1 rfl rfl) h1
  obtain ⟨b, rfl, rfl, rfl, w2⟩ := open_int Try.underlying3 (hval 2 3 v2 rfl rfl) h2
  obtain ⟨n, rfl, rfl, rfl, w3⟩ := open_int Try.underlying3 (hval 3 3 v3 rfl rfl) h3
  obtain ⟨bits, rfl, rfl, rfl, w4⟩ := open_int Try.underlying3 (hval 4 3 v4 rfl rfl) h4
  refine (WordTells_any s at_ b n bits W z0).mono fun e W' ⟨he, hb⟩ => ?_
  subst he
  exact ⟨_, rfl, law_post Try.laidOut hW' rfl (by decide +kernel) rfl Try.underlying4 rfl rfl rfl hb⟩

theorem wordTells_holds : Rows.WordTellsSaid :=
  OpenClaim.holds_of_wide 3 Try.f3 rfl rfl rfl rfl rfl rfl rfl ⟨rfl, rfl, rfl, rfl, rfl⟩ rfl rfl rfl rfl rfl (by kernel_rfl) Try.func3 (by kernel_rfl)
    (of_decide_eq_true (by kernel_rfl)) (by unfold Func.isWrapper; first | (rw [if_pos (by decide +kernel)]; kernel_rfl) | (rw [if_neg (by decide +kernel)]; exact ⟨rfl, rfl⟩))
    (fun os started H enc _ => wordTells_lifted os started H enc)
#print axioms wordTells_holds


end Go.Proofs.Ytjlbcaiionmcnaa
