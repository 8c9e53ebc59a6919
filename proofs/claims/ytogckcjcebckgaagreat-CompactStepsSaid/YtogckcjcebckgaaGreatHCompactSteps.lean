import Derived.Test.YtogckcjcebckgaaGreatKStepsW
import Derived.Test.YtogckcjcebckgaaGreatKShut
/- CompactSteps: behind each step all is right, with the same modules in the same order; behind Pack one run is free, if any is; at most as many steps as modules. No condition. -/
namespace Go.Proofs.YtogckcjcebckgaaGreat
open Go.ChangeShapes Go.WideShapes Go.ChangeAt Go.RowKit Go.WideMaps Go.WideElems
open Go.ChangeMaps (setBlock shut_map_nil open_string shut_string keptBut_setBlock frozen?_setBlock heap_setBlock_same)

set_option maxHeartbeats 0 in
theorem compactSteps_closed : joinedFacts Tryz.prog 5 Tryz.f5 Rows.compactStepsSpec Rows.compactStepsRow = true := by
  unfold joinedFacts
  simp only [Bool.and_eq_true]
  and_intros
  · as_aux_lemma => kernel_rfl
  · exact Tryz.laidOut
  · exact Tryz.k_mapsRowed
  · as_aux_lemma => kernel_rfl
  · as_aux_lemma => kernel_rfl
  · as_aux_lemma => kernel_rfl
  · exact Tryz.k_stops
  · as_aux_lemma => kernel_rfl
  · exact Tryz.k_stopKnobs
  · as_aux_lemma => kernel_rfl
  · as_aux_lemma => kernel_rfl
  · as_aux_lemma => kernel_rfl
  · as_aux_lemma => kernel_rfl
  · as_aux_lemma => kernel_rfl
  · as_aux_lemma => kernel_rfl
  · as_aux_lemma => kernel_rfl
  · as_aux_lemma => kernel_rfl
  · as_aux_lemma => kernel_rfl
  · as_aux_lemma => kernel_rfl
  · as_aux_lemma => kernel_rfl
  · as_aux_lemma => kernel_rfl
  · as_aux_lemma => kernel_rfl
  · exact Tryz.k_plainKeys
  · as_aux_lemma => kernel_rfl
  · exact Tryz.k_stopsHeard
  · exact Tryz.k_mayEnter
  · exact Tryz.k_lifts
  · exact Tryz.k_make
  · as_aux_lemma => kernel_rfl
  · as_aux_lemma => kernel_rfl
  · as_aux_lemma => kernel_rfl
  · as_aux_lemma => kernel_rfl

set_option maxRecDepth 100000 in
theorem compactSteps_lifted (os : Os) (started : os.Started) (H : Type) (enc : TypeId × Value → H) :
    ReturnsInHanded {} Tryz.checked os 5 .any (Rows.compactStepsSpec.pre6 enc Tryz.prog Tryz.f5 Rows.compactStepsRow.domain false) (Rows.compactStepsSpec.post enc Tryz.prog Tryz.f5 false true false false) := by
  refine returnsInHanded_of_change_sized (C := Tryz.checked) Tryz.own started (by kernel_rfl) Tryz.func5
    (ChangeSpec.witness6 (enc := enc) (C := Tryz.checked) false ⟨#[], #[.agg #[.int .i64 0, .int .i64 0, .slice none 0 0, .slice none 0 0]], []⟩ 8 (by kernel_rfl) (by kernel_rfl) (by kernel_rfl) (by kernel_rfl)) ?_
  intro W base args ds gs before hval0 hW hcnd hsz0 _
  have hval : ∀ (j : Nat) t v, Tryz.f5.params[j]? = some t → args[j]? = some v → Value.okWide Tryz.prog W .any base t v := hval0
  have hsz : (DataW.weightsEach Tryz.prog (Tryz.f5.params.toList ++ Rows.compactStepsSpec.plain.varTypes Tryz.prog) (ds ++ gs)).all (· ≤ reachBytes) = true := hsz0
  have hW' := hW
  obtain ⟨p, q, hA0, hV, rfl, hfz, hnd⟩ := hW
  have hA : DataW.TrodAll enc Tryz.prog W 0 (fun _ => true) true Tryz.f5.params.toList args.toList ds p := hA0
  rw [Tryz.params5] at hA hval hsz
  obtain ⟨v0, vs0, d0, ds0, p0, q0, hargs, rfl, rfl, h0, r0⟩ := trodAll_cons hA
  obtain ⟨rfl, rfl, rfl⟩ := trodAll_nil r0
  obtain rfl : args = #[v0] := by cases args; simp_all
  obtain ⟨rfl, rfl⟩ := trodVars_none hV
  have ft0 := fits_each hsz (j := 0) rfl rfl
  obtain ⟨rK, rA, rL, rC, rfl, okk0, okl0⟩ := open_Registry (hval 0 39 v0 rfl rfl) h0 ft0
  refine (CompactSteps_any rK rA rL rC W okk0 okl0).mono fun e W' ⟨he, hb⟩ => ?_
  subst he
  exact ⟨_, rfl, law_post Tryz.laidOut hW' rfl (by decide +kernel) rfl Tryz.underlying4 rfl rfl rfl hb⟩

theorem compactSteps_holds : Rows.CompactStepsSaid :=
  OpenClaim.holds_of_wide 5 Tryz.f5 rfl rfl rfl rfl rfl rfl rfl ⟨rfl, rfl, rfl, rfl, rfl⟩ rfl rfl rfl rfl rfl (by kernel_rfl) Tryz.func5 compactSteps_closed
    (of_decide_eq_true (by kernel_rfl)) (by unfold Func.isWrapper; first | (rw [if_pos (by decide +kernel)]; kernel_rfl) | (rw [if_neg (by decide +kernel)]; exact ⟨rfl, rfl⟩))
    (fun os started H enc _ => compactSteps_lifted os started H enc)
#print axioms compactSteps_holds


end Go.Proofs.YtogckcjcebckgaaGreat
