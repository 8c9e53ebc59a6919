import Derived.Test.YtjlbcaiionmcnaaPatchBegun
import Derived.Test.YtjlbcaiionmcnaaFrame
/- PatchTells: patch.Width, Value and Apply answer just what the document's answer does, errors too. No condition. -/
namespace Go.Proofs.Ytjlbcaiionmcnaa
open Go.ChangeShapes Go.WideShapes Go.ChangeAt Go.RowKit Go.WideMaps Go.WideElems
open Go.ChangeMaps (setBlock shut_map_nil open_string shut_string keptBut_setBlock frozen?_setBlock heap_setBlock_same)

set_option maxHeartbeats 2000000 in
theorem PatchTells_any (s : ByteArray) (kind at_ y add sym base : Int) (w : World) (hs : s.size ≤ 140737488351232) :
    Calls Try.prog 6 #[.string s, .agg #[.int .i64 kind, .int .i64 at_, .int .i64 y, .int .i64 add], .int .i64 sym, .int .i64 base] w fun e w' => e = .returned (.bool true) ∧ Below w.heap.size w w' := by
  have hb0 : Below w.heap.size w (w.alloc (.cells #[.int .i64 kind, .int .i64 at_, .int .i64 y, .int .i64 add] 36)) := (Below.refl _ _).alloc (Nat.le_refl _) _
  have HB := Lib.hid hb0
  clear hb0
  by_cases h0 : widthOf kind = 0
  · have c1 := Lib.hid (fun W => (PWidth_any kind W).mono (fun _ _ h => (⟨h.1.trans (ret_ints h0 (by rw [if_pos h0])), h.2⟩ : _ = Ending.returned (.tuple #[.int .i64 0, .int .i64 7]) ∧ _)))
    have c2 := Lib.hid (fun W => (WidthOf_any kind W).mono (fun _ _ h => (⟨h.1.trans (ret_int h0), h.2⟩ : _ = Ending.returned (.int .i64 0) ∧ _)))
    clear h0
    go_enter Try.func6, Try.ntmps6
    go_wp2_with (first | (go_at_call 17; (with_reducible refine (c1.out _).mono ?_); rintro e w1 ⟨rfl, hb1⟩; obtain ⟨hc1, hf1⟩ := bcell hb1; have hz1 : w.heap.size < w1.heap.size := by have := hb1.size; (try simp at this); omega) | (go_at_call 18; (with_reducible refine (Value_any _ _ _ _ _).mono ?_); rintro e w2 ⟨rfl, hb2⟩; obtain ⟨hc2, hf2⟩ := bcell hb2; have hz2 : w.heap.size < w2.heap.size := by have := hb2.size; (try simp at this); omega) | (go_at_call 19; (with_reducible refine (Apply_any _ _ _ _ _ _ _ _ hs).mono ?_); rintro e w3 ⟨rfl, hb3⟩; obtain ⟨hc3, hf3⟩ := bcell hb3; have hz3 : w.heap.size < w3.heap.size := by have := hb3.size; (try simp at this); omega) | (go_at_call 20; (with_reducible refine (c2.out _).mono ?_); rintro e w' ⟨rfl, rfl⟩) | (go_at_call 21; (with_reducible refine (ValueOf_any _ _ _ _ _).mono ?_); rintro e w4 ⟨rfl, hb4⟩; obtain ⟨hc4, hf4⟩ := bcell hb4; have hz4 : w.heap.size < w4.heap.size := by have := hb4.size; (try simp at this); omega) | (go_at_call 22; (with_reducible refine (ApplyOf_any _ _ _ _ _ _ _ _ hs).mono ?_); rintro e w5 ⟨rfl, hb5⟩; obtain ⟨hc5, hf5⟩ := bcell hb5; have hz5 : w.heap.size < w5.heap.size := by have := hb5.size; (try simp at this); omega) | (go_at_call 23; (with_reducible refine (patchBegun_any _).mono ?_); rintro e w6 ⟨rfl, hb6⟩))
    all_goals (go_ret; exact ⟨by simp, HB.out.trans ((below_step hb1 (below_step hb2 (below_step hb3 (below_step hb4 (below_step hb5 hb6))))).mono (by simp))⟩)
  · have c1 := Lib.hid (fun W => (PWidth_any kind W).mono (fun _ _ h => (⟨h.1.trans (ret_ints rfl (by rw [if_neg h0])), h.2⟩ : _ = Ending.returned (.tuple #[.int .i64 (widthOf kind), .int .i64 0]) ∧ _)))
    have h0' : (widthOf kind == 0) = false := by simp [h0]
    clear h0
    go_enter Try.func6, Try.ntmps6
    go_wp2_with (first | (go_at_call 17; (with_reducible refine (c1.out _).mono ?_); rintro e w1 ⟨rfl, hb1⟩; obtain ⟨hc1, hf1⟩ := bcell hb1; have hz1 : w.heap.size < w1.heap.size := by have := hb1.size; (try simp at this); omega) | (go_at_call 18; (with_reducible refine (Value_any _ _ _ _ _).mono ?_); rintro e w2 ⟨rfl, hb2⟩; obtain ⟨hc2, hf2⟩ := bcell hb2; have hz2 : w.heap.size < w2.heap.size := by have := hb2.size; (try simp at this); omega) | (go_at_call 19; (with_reducible refine (Apply_any _ _ _ _ _ _ _ _ hs).mono ?_); rintro e w3 ⟨rfl, hb3⟩; obtain ⟨hc3, hf3⟩ := bcell hb3; have hz3 : w.heap.size < w3.heap.size := by have := hb3.size; (try simp at this); omega) | (go_at_call 20; (with_reducible refine (WidthOf_any _ _).mono ?_); rintro e w' ⟨rfl, rfl⟩) | (go_at_call 21; (with_reducible refine (ValueOf_any _ _ _ _ _).mono ?_); rintro e w4 ⟨rfl, hb4⟩; obtain ⟨hc4, hf4⟩ := bcell hb4; have hz4 : w.heap.size < w4.heap.size := by have := hb4.size; (try simp at this); omega) | (go_at_call 22; (with_reducible refine (ApplyOf_any _ _ _ _ _ _ _ _ hs).mono ?_); rintro e w5 ⟨rfl, hb5⟩; obtain ⟨hc5, hf5⟩ := bcell hb5; have hz5 : w.heap.size < w5.heap.size := by have := hb5.size; (try simp at this); omega) | (go_at_call 23; (with_reducible refine (patchBegun_any _).mono ?_); rintro e w6 ⟨rfl, hb6⟩))
    all_goals (go_ret; exact ⟨by simp, HB.out.trans ((below_step hb1 (below_step hb2 (below_step hb3 (below_step hb4 (below_step hb5 hb6))))).mono (by simp))⟩)

set_option maxRecDepth 100000 in
theorem patchTells_lifted (os : Os) (started : os.Started) (H : Type) (enc : TypeId × Value → H) :
    ReturnsInHanded {} Try.checked os 6 .any (Rows.patchTellsSpec.pre6 enc Try.prog Try.f6 Rows.patchTellsRow.domain false) (Rows.patchTellsSpec.post enc Try.prog Try.f6 false true false false) := by
  refine returnsInHanded_of_change_sized (C := Try.checked) Try.own started (by kernel_rfl) Try.func6
    (ChangeSpec.witness6 (enc := enc) (C := Try.checked) false ⟨#[], #[.string ⟨#[]⟩, .agg #[.int .i64 0, .int .i64 0, .int .i64 0, .int .i64 0], .int .i64 0, .int .i64 0], []⟩ 8 (by kernel_rfl) (by kernel_rfl) (by kernel_rfl) (by kernel_rfl)) ?_
  intro W base args ds gs before hval0 hW hcnd hsz0 _
  have hval : ∀ (j : Nat) t v, Try.f6.params[j]? = some t → args[j]? = some v → Value.okWide Try.prog W .any base t v := hval0
  have hsz : (DataW.weightsEach Try.prog (Try.f6.params.toList ++ Rows.patchTellsSpec.plain.varTypes Try.prog) (ds ++ gs)).all (· ≤ reachBytes) = true := hsz0
  have hW' := hW
  obtain ⟨p, q, hA0, hV, rfl, hfz, hnd⟩ := hW
  have hA : DataW.TrodAll enc Try.prog W 0 (fun _ => true) true Try.f6.params.toList args.toList ds p := hA0
  rw [Try.params6] at hA hval hsz
  obtain ⟨v0, vs0, d0, ds0, p0, q0, hargs, rfl, rfl, h0, r0⟩ := trodAll_cons hA
  obtain ⟨v1, vs1, d1, ds1, p1, q1, rfl, rfl, rfl, h1, r1⟩ := trodAll_cons r0
  obtain ⟨v2, vs2, d2, ds2, p2, q2, rfl, rfl, rfl, h2, r2⟩ := trodAll_cons r1
  obtain ⟨v3, vs3, d3, ds3, p3, q3, rfl, rfl, rfl, h3, r3⟩ := trodAll_cons r2
  obtain ⟨rfl, rfl, rfl⟩ := trodAll_nil r3
  obtain rfl : args = #[v0, v1, v2, v3] := by cases args; simp_all
  obtain ⟨rfl, rfl⟩ := trodVars_none hV
  obtain ⟨s, rfl, rfl, rfl, w0⟩ := open_string Try.underlying9 (hval 0 9 v0 rfl rfl) h0
  have z0 : s.size ≤ 140737488351232 := by have := sized_string hsz (j := 0) (t := 9) rfl rfl; simpa [reachBytes] using this
  obtain ⟨pk, pa, py, pd, rfl⟩ := open_Patch (hval 1 36 v1 rfl rfl) h1
  obtain ⟨sym, rfl, rfl, rfl, w2⟩ := open_int Try.underlying3 (hval 2 3 v2 rfl rfl) h2
  obtain ⟨base, rfl, rfl, rfl, w3⟩ := open_int Try.underlying3 (hval 3 3 v3 rfl rfl) h3
  refine (PatchTells_any s pk pa py pd sym base W z0).mono fun e W' ⟨he, hb⟩ => ?_
  subst he
  exact ⟨_, rfl, law_post Try.laidOut hW' rfl (by decide +kernel) rfl Try.underlying4 rfl rfl rfl hb⟩

theorem patchTells_holds : Rows.PatchTellsSaid :=
  OpenClaim.holds_of_wide 6 Try.f6 rfl rfl rfl rfl rfl rfl rfl ⟨rfl, rfl, rfl, rfl, rfl⟩ rfl rfl rfl rfl rfl (by kernel_rfl) Try.func6 (by kernel_rfl)
    (of_decide_eq_true (by kernel_rfl)) (by unfold Func.isWrapper; first | (rw [if_pos (by decide +kernel)]; kernel_rfl) | (rw [if_neg (by decide +kernel)]; exact ⟨rfl, rfl⟩))
    (fun os started H enc _ => patchTells_lifted os started H enc)
#print axioms patchTells_holds


end Go.Proofs.Ytjlbcaiionmcnaa
