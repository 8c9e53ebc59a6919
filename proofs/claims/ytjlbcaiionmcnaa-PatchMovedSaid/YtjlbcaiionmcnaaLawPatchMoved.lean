import Derived.Test.YtjlbcaiionmcnaaPatchBegun
import Derived.Test.YtjlbcaiionmcnaaFrame
/- PatchMoved: where both addresses are moved alike, what is told from here on is the same. No condition. -/
namespace Go.Proofs.Ytjlbcaiionmcnaa
open Go.ChangeShapes Go.WideShapes Go.ChangeAt Go.RowKit Go.WideMaps Go.WideElems
open Go.ChangeMaps (setBlock shut_map_nil open_string shut_string keptBut_setBlock frozen?_setBlock heap_setBlock_same)

theorem value_ok {kind sym add place : Int} (h : valueErr kind sym add place = 0) : widthOf kind ≠ 0 ∧ 0 ≤ sym ∧ sym ≤ 65535 ∧ 0 ≤ place ∧ place ≤ 65535 ∧ 0 ≤ add ∧ add ≤ 65535 ∧ ¬ (kind = 5 ∧ (sym + add - place) % 2 = 1) := by
  unfold valueErr at h
  (repeat' split at h) <;> omega
theorem value_of {kind sym add place : Int} (h0 : widthOf kind ≠ 0) (h1 : 0 ≤ sym) (h2 : sym ≤ 65535) (h3 : 0 ≤ place) (h4 : place ≤ 65535) (h5 : 0 ≤ add) (h6 : add ≤ 65535) (h7 : ¬ (kind = 5 ∧ (sym + add - place) % 2 = 1)) : valueErr kind sym add place = 0 := by
  unfold valueErr; rw [if_neg h0, if_neg (by omega), if_neg h7]
theorem moved_err {kind sym add place by_ : Int} (h : valueErr kind sym add place = 0) : valueErr kind (sym + by_) add (place + by_) = 0 ∨ valueErr kind (sym + by_) add (place + by_) = 3 := by
  obtain ⟨h0, h1, h2, h3, h4, h5, h6, h7⟩ := value_ok h
  unfold valueErr
  rw [if_neg h0]
  split
  · exact .inr rfl
  · rw [if_neg (by omega)]; exact .inl rfl
theorem moved_same {kind sym add place by_ : Int} (h : valueErr kind sym add place = 0) (h' : valueErr kind (sym + by_) add (place + by_) = 0) (hk : kind = 2 ∨ kind = 5) : valueNum kind sym add place = valueNum kind (sym + by_) add (place + by_) := by
  have e : sym + by_ + add - (place + by_) = sym + add - place := by omega
  unfold valueNum valueRaw
  rw [if_pos h, if_pos h', e]
  rcases hk with rfl | rfl <;> simp
theorem moved_other {kind sym add place by_ : Int} (h : valueErr kind sym add place = 0) (h' : valueErr kind (sym + by_) add (place + by_) = 0) (h2 : kind ≠ 2) (h5 : kind ≠ 5) : valueErr kind sym add (place + by_) = 0 ∧ valueNum kind sym add (place + by_) = valueNum kind sym add place := by
  obtain ⟨g0, g1, g2, g3, g4, g5, g6, g7⟩ := value_ok h
  obtain ⟨_, _, _, k3, k4, _⟩ := value_ok h'
  have e := value_of (kind := kind) (sym := sym) (add := add) (place := place + by_) g0 g1 g2 k3 k4 g5 g6 (fun hh => h5 hh.1)
  refine ⟨e, ?_⟩
  unfold valueNum valueRaw
  rw [if_pos e, if_pos h, if_neg h2, if_neg h2, if_neg h5, if_neg h5]

set_option maxHeartbeats 2000000 in
theorem PatchMoved_any (kind sym add place by_ : Int) (w : World) :
    Calls Try.prog 7 #[.int .i64 kind, .int .i64 sym, .int .i64 add, .int .i64 place, .int .i64 by_] w fun e w' => e = .returned (.bool true) ∧ Below w.heap.size w w' := by
  by_cases hv : valueErr kind sym add place = 0
  · obtain ⟨g0, g1, g2, g3, g4, g5, g6, g7⟩ := value_ok hv
    have c1 := Lib.hid (fun W => (Value_any kind sym add place W).mono (fun _ _ h => (⟨h.1.trans (ret_ints rfl hv), h.2⟩ : _ = Ending.returned (.tuple #[.int .i64 (valueNum kind sym add place), .int .i64 0]) ∧ _)))
    by_cases hby : by_ < -65536 ∨ 65536 < by_
    · clear hv g7
      go_enter Try.func7, Try.ntmps7
      go_wp2_with (first | (go_at_call 18; (with_reducible refine (c1.out _).mono ?_); rintro e w1 ⟨rfl, hb1⟩) | (go_at_call 23; (with_reducible refine (patchBegun_any _).mono ?_); rintro e w2 ⟨rfl, hb2⟩))
      all_goals first | (go_ret; exact ⟨by simp, below_step hb1 hb2⟩) | (exfalso; omega)
    · have q1 : -65536 ≤ by_ := by omega
      have q2 : by_ ≤ 65536 := by omega
      clear hby
      rcases moved_err (by_ := by_) hv with h' | h'
      · have c2 := Lib.hid (fun W => (Value_any kind (sym + by_) add (place + by_) W).mono (fun _ _ h => (⟨h.1.trans (ret_ints rfl h'), h.2⟩ : _ = Ending.returned (.tuple #[.int .i64 (valueNum kind (sym + by_) add (place + by_)), .int .i64 0]) ∧ _)))
        by_cases hk : kind = 2 ∨ kind = 5
        · have hs := moved_same hv h' hk
          rw [← hs] at c2
          have hk' : ((kind == 2) || (kind == 5)) = true := by simp; exact hk
          clear hs hv h' g7
          rcases hk with rfl | rfl
          all_goals
            clear hk'
            go_enter Try.func7, Try.ntmps7
            go_wp2_with fail
            refine (c1.out _).mono ?_; rintro e w1 ⟨rfl, hb1⟩
            go_wp2_with fail
            refine (patchBegun_any _).mono ?_; rintro e w2 ⟨rfl, hb2⟩
            go_wp2_with fail
            refine (c2.out _).mono ?_; rintro e w3 ⟨rfl, hb3⟩
            go_wp2_with fail
            all_goals (go_ret; exact ⟨by simp, below_step hb1 (below_step hb2 hb3)⟩)
        · have hs := moved_other hv h' (fun h => hk (.inl h)) (fun h => hk (.inr h))
          have c3 := Lib.hid (fun W => (Value_any kind sym add (place + by_) W).mono (fun _ _ h => (⟨h.1.trans (ret_ints hs.2 hs.1), h.2⟩ : _ = Ending.returned (.tuple #[.int .i64 (valueNum kind sym add place), .int .i64 0]) ∧ _)))
          have k2 : (kind == 2) = false := by simp; omega
          have k5 : (kind == 5) = false := by simp; omega
          clear hs hv h' g7 hk
          go_enter Try.func7, Try.ntmps7
          go_wp2_with fail
          refine (c1.out _).mono ?_; rintro e w1 ⟨rfl, hb1⟩
          go_wp2_with fail
          refine (patchBegun_any _).mono ?_; rintro e w2 ⟨rfl, hb2⟩
          go_wp2_with fail
          refine (c2.out _).mono ?_; rintro e w3 ⟨rfl, hb3⟩
          go_wp2_with fail
          refine (c3.out _).mono ?_; rintro e w4 ⟨rfl, hb4⟩
          go_wp2_with fail
          all_goals (go_ret; exact ⟨by simp, below_step hb1 (below_step hb2 (below_step hb3 hb4))⟩)
      · have c2 := Lib.hid (fun W => (Value_any kind (sym + by_) add (place + by_) W).mono (fun _ _ h => (⟨h.1.trans (ret_ints rfl h'), h.2⟩ : _ = Ending.returned (.tuple #[.int .i64 (valueNum kind (sym + by_) add (place + by_)), .int .i64 3]) ∧ _)))
        clear hv h' g7
        go_enter Try.func7, Try.ntmps7
        go_wp2_with fail
        refine (c1.out _).mono ?_; rintro e w1 ⟨rfl, hb1⟩
        go_wp2_with fail
        refine (patchBegun_any _).mono ?_; rintro e w2 ⟨rfl, hb2⟩
        go_wp2_with fail
        refine (c2.out _).mono ?_; rintro e w3 ⟨rfl, hb3⟩
        go_wp2_with fail
        all_goals (go_ret; exact ⟨by simp, below_step hb1 (below_step hb2 hb3)⟩)
  · have hn : valueNum kind sym add place = 0 := by unfold valueNum; rw [if_neg hv]
    have hv' : (valueErr kind sym add place != 0) = true := by simp [hv]
    have c1 := Lib.hid (fun W => (Value_any kind sym add place W).mono (fun _ _ h => (⟨h.1.trans (ret_ints hn rfl), h.2⟩ : _ = Ending.returned (.tuple #[.int .i64 0, .int .i64 (valueErr kind sym add place)]) ∧ _)))
    clear hv hn
    go_enter Try.func7, Try.ntmps7
    go_wp2_with (first | (go_at_call 18; (with_reducible refine (c1.out _).mono ?_); rintro e w1 ⟨rfl, hb1⟩) | (go_at_call 23; (with_reducible refine (patchBegun_any _).mono ?_); rintro e w2 ⟨rfl, hb2⟩))
    all_goals (go_ret; exact ⟨by simp, below_step hb1 hb2⟩)

set_option maxRecDepth 100000 in
theorem patchMoved_lifted (os : Os) (started : os.Started) (H : Type) (enc : TypeId × Value → H) :
    ReturnsInHanded {} Try.checked os 7 .any (Rows.patchMovedSpec.pre6 enc Try.prog Try.f7 Rows.patchMovedRow.domain false) (Rows.patchMovedSpec.post enc Try.prog Try.f7 false true false false) := by
  refine returnsInHanded_of_change_sized (C := Try.checked) Try.own started (by kernel_rfl) Try.func7
    (ChangeSpec.witness6 (enc := enc) (C := Try.checked) false ⟨#[], #[.int .i64 0, .int .i64 0, .int .i64 0, .int .i64 0, .int .i64 0], []⟩ 8 (by kernel_rfl) (by kernel_rfl) (by kernel_rfl) (by kernel_rfl)) ?_
  intro W base args ds gs before hval0 hW hcnd hsz0 _
  have hval : ∀ (j : Nat) t v, Try.f7.params[j]? = some t → args[j]? = some v → Value.okWide Try.prog W .any base t v := hval0
  have hsz : (DataW.weightsEach Try.prog (Try.f7.params.toList ++ Rows.patchMovedSpec.plain.varTypes Try.prog) (ds ++ gs)).all (· ≤ reachBytes) = true := hsz0
  have hW' := hW
  obtain ⟨p, q, hA0, hV, rfl, hfz, hnd⟩ := hW
  have hA : DataW.TrodAll enc Try.prog W 0 (fun _ => true) true Try.f7.params.toList args.toList ds p := hA0
  rw [Try.params7] at hA hval hsz
  obtain ⟨v0, vs0, d0, ds0, p0, q0, hargs, rfl, rfl, h0, r0⟩ := trodAll_cons hA
  obtain ⟨v1, vs1, d1, ds1, p1, q1, rfl, rfl, rfl, h1, r1⟩ := trodAll_cons r0
  obtain ⟨v2, vs2, d2, ds2, p2, q2, rfl, rfl, rfl, h2, r2⟩ := trodAll_cons r1
  obtain ⟨v3, vs3, d3, ds3, p3, q3, rfl, rfl, rfl, h3, r3⟩ := trodAll_cons r2
  obtain ⟨v4, vs4, d4, ds4, p4, q4, rfl, rfl, rfl, h4, r4⟩ := trodAll_cons r3
  obtain ⟨rfl, rfl, rfl⟩ := trodAll_nil r4
  obtain rfl : args = #[v0, v1, v2, v3, v4] := by cases args; simp_all
  obtain ⟨rfl, rfl⟩ := trodVars_none hV
  obtain ⟨kind, rfl, rfl, rfl, w0⟩ := open_int Try.underlying3 (hval 0 3 v0 rfl rfl) h0
  obtain ⟨sym, rfl, rfl, rfl, w1⟩ := open_int Try.underlying3 (hval 1 3 v1 rfl rfl) h1
  obtain ⟨add, rfl, rfl, rfl, w2⟩ := open_int Try.underlying3 (hval 2 3 v2 rfl rfl) h2
  obtain ⟨place, rfl, rfl, rfl, w3⟩ := open_int Try.underlying3 (hval 3 3 v3 rfl rfl) h3
  obtain ⟨by_, rfl, rfl, rfl, w4⟩ := open_int Try.underlying3 (hval 4 3 v4 rfl rfl) h4
  refine (PatchMoved_any kind sym add place by_ W ).mono fun e W' ⟨he, hb⟩ => ?_
  subst he
  exact ⟨_, rfl, law_post Try.laidOut hW' rfl (by decide +kernel) rfl Try.underlying4 rfl rfl rfl hb⟩

theorem patchMoved_holds : Rows.PatchMovedSaid :=
  OpenClaim.holds_of_wide 7 Try.f7 rfl rfl rfl rfl rfl rfl rfl ⟨rfl, rfl, rfl, rfl, rfl⟩ rfl rfl rfl rfl rfl (by kernel_rfl) Try.func7 (by kernel_rfl)
    (of_decide_eq_true (by kernel_rfl)) (by unfold Func.isWrapper; first | (rw [if_pos (by decide +kernel)]; kernel_rfl) | (rw [if_neg (by decide +kernel)]; exact ⟨rfl, rfl⟩))
    (fun os started H enc _ => patchMoved_lifted os started H enc)
#print axioms patchMoved_holds


end Go.Proofs.Ytjlbcaiionmcnaa
