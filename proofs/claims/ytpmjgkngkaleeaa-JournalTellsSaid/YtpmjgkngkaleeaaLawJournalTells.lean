import Derived.Test.YtpmjgkngkaleeaaOpenF
import Derived.Test.YtpmjgkngkaleeaaJourBegun
/- JournalTells: errors of Append and Open are what the document says, whatever flash they are handed; a flash that is not ours has ErrState, ErrSpace, or some flash. No condition. -/
namespace Go.Proofs.Ytpmjgkngkaleeaa
open Go.ChangeShapes Go.WideShapes Go.ChangeAt Go.RowKit Go.WideMaps Go.WideElems
open Go.ChangeMaps (setBlock shut_map_nil open_string shut_string keptBut_setBlock frozen?_setBlock heap_setBlock_same)

theorem open_zero {f : List ByteArray} (h : openErr f ≠ 0) : openRecs f = [] := by
  unfold openErr at h
  unfold openRecs
  by_cases hf : flErr f = 0
  · rw [if_pos hf] at h ⊢
    cases hj : jload (flat f) with
    | none => rfl
    | some p => rw [hj] at h; exact absurd rfl h
  · rw [if_neg hf]

set_option maxHeartbeats 4000000 in
set_option maxRecDepth 100000 in
theorem JournalTells_any (f : Fl) (s : ByteArray) (w : World) (h : f.ok w) (hs : s.size ≤ 140737488351232) :
    Calls Try.prog 6 #[f.v, .string s] w fun e w' => e = .returned (.bool true) ∧ Below w.heap.size w w' := by
  obtain ⟨w1, hw1⟩ : ∃ w1, w1 = w.alloc (.cells #[.slice f.a f.bl.length f.c] 24) := ⟨_, rfl⟩
  obtain ⟨f0, hz1, hb1⟩ := box1 hw1
  have hw1' := hw1.symm
  have HB1 := Lib.hid hb1
  have H := Lib.hid h
  have cA := Lib.hid (Append_any f s w1 (h.below hb1) (by unfold big; exact hs))
  have cO := Lib.hid (fun W (hW : Below w.heap.size w W) => Open_any f W (h.below hW))
  have cF := Lib.hid (fun W (hW : Below w.heap.size w W) => CheckFlash_any f W (h.below hW))
  have cB := Lib.hid (fun W => journalBegun_any W)
  obtain ⟨EA, hEA⟩ : ∃ E, E = appErr f.bl s.size := ⟨_, rfl⟩
  obtain ⟨EO, hEO⟩ : ∃ E, E = openErr f.bl := ⟨_, rfl⟩
  obtain ⟨EF, hEF⟩ : ∃ E, E = flErr f.bl := ⟨_, rfl⟩
  obtain ⟨FA, hFA⟩ : ∃ E, E = appRes f.bl (bytesOf s) := ⟨_, rfl⟩
  obtain ⟨DA, hDA⟩ : ∃ E, E = appDs f.bl (bytesOf s) := ⟨_, rfl⟩
  obtain ⟨RO, hRO⟩ : ∃ E, E = openRecs f.bl := ⟨_, rfl⟩
  rw [← hEA, ← hFA, ← hDA] at cA
  rw [← hEO, ← hRO] at cO
  rw [← hEF] at cF
  have HA := Lib.hid (show EA ≠ 0 → FA = [] ∧ DA = [] from fun h => ⟨by rw [hFA]; unfold appRes; rw [bytes_length, ← hEA]; exact resIf_ne h, by rw [hDA]; unfold appDs; rw [bytes_length, ← hEA]; exact if_neg h⟩)
  have HO := Lib.hid (show EO ≠ 0 → RO = [] from fun h => by rw [hRO]; exact open_zero (by rw [← hEO]; exact h))
  have HEA := Lib.hid (show EA = if EF = 0 then (if s.size = 0 then 1 else if 800 < s.size then 2 else addErr (flat f.bl) s.size) else EF by rw [hEA, hEF]; rfl)
  have HAE := Lib.hid (show addErr (flat f.bl) s.size = 0 ∨ addErr (flat f.bl) s.size = 4 ∨ addErr (flat f.bl) s.size = 8 by
    unfold addErr
    cases jload (flat f.bl) with
    | none => exact .inr (.inl rfl)
    | some p =>
      simp only
      split
      · exact .inr (.inr rfl)
      · exact .inl rfl)
  have HEO := Lib.hid (show EO = if EF = 0 then (match jload (flat f.bl) with | none => 4 | some _ => 0) else EF by rw [hEO, hEF]; rfl)
  have HEO4 := Lib.hid (show EF = 0 → EO = 0 ∨ EO = 4 from fun h => by
    rw [HEO.out, if_pos h]
    cases jload (flat f.bl) with
    | none => exact .inr rfl
    | some p => exact .inl rfl)
  have HEOF := Lib.hid (show EF ≠ 0 → EO = EF from fun h => by rw [HEO.out, if_neg h])
  clear hw1 hb1 h hz1 hEA hEO hEF hFA hDA hRO HEO
  go_enter Try.func6, Try.ntmps6
  go_upto_region 6 with (first
    | (go_at_call 23; refine (cA.out).mono ?_; rintro e w2 ⟨hb2, a, A2, c2, D2, rfl, hr2, hO2, hD2⟩
       obtain ⟨w3, hw3⟩ : ∃ x, x = w2.alloc (.cells #[.slice a.a a.bl.length a.c] 24) := ⟨_, rfl⟩
       obtain ⟨a3, _, hz3, hb3⟩ := box_new hw3
       have hw3' := hw3.symm
       have hb13 := hb2.trans (hb3.mono hb2.size)
       have f3 := (hb13.cell (p := ⟨w.heap.size, 0, none⟩) (cell_lt' f0)).trans f0
       have HB3 := Lib.hid (HB1.out.trans (hb13.mono HB1.out.size))
       have HAL := Lib.hid (show EA ≠ 0 → a.bl.length = 0 ∧ D2.length = 0 from fun h => ⟨by rw [hr2.is, (HA.out h).1]; rfl, by rw [hD2, (HA.out h).2]; rfl⟩)
       clear hw3 hz3 hb2 hb3 hb13 hr2 hO2 hD2 f0)
    | (go_at_call 24; refine (cO.out _ HB3.out).mono ?_; rintro e w4 ⟨hb4, A4, c4, R4, rfl, hO4, hR4⟩
       have f4 := (hb4.cell (p := ⟨w.heap.size, 0, none⟩) (cell_lt' f3)).trans f3
       have a4 := (hb4.cell (p := ⟨w2.heap.size, 0, none⟩) (cell_lt' a3)).trans a3
       have HB4 := Lib.hid (HB3.out.trans (hb4.mono HB3.out.size))
       have HOL := Lib.hid (show EO ≠ 0 → R4.length = 0 from fun h => by rw [hR4, HO.out h]; rfl)
       clear hb4 hO4 hR4 f3 a3)
    | (go_at_call 15; refine (cF.out _ HB4.out).mono ?_; rintro e w5 ⟨rfl, hb5⟩
       have a5 := (hb5.cell (p := ⟨w2.heap.size, 0, none⟩) (cell_lt' a4)).trans a4
       have HB5 := Lib.hid (HB4.out.trans (hb5.mono HB4.out.size))
       clear hb5 f4 a4)
    | (go_at_call 25; refine (cB.out _).mono ?_; rintro e w6 ⟨rfl, hb6⟩
       have a6 := (hb6.cell (p := ⟨w2.heap.size, 0, none⟩) (cell_lt' a5)).trans a5
       have HB6 := Lib.hid (HB5.out.trans (hb6.mono HB5.out.size))
       clear hb6 a5))
  clear cA cO cF cB HA HO
  by_cases t0 : EF = 0
  · have ha := HEA.out
    rw [if_pos t0] at ha
    subst t0
    have hAL : EA ≠ 0 → a.bl.length = 0 ∧ D2.length = 0 := HAL.out
    have HL1 := Lib.hid hs
    have key : ∀ (Q : Prop), (s.size = 0 → EA = 1 → Q) → (s.size ≠ 0 → 800 < s.size → EA = 2 → Q) → (s.size ≠ 0 → ¬ 800 < s.size → (EA = 0 ∨ EA = 4 ∨ EA = 8) → Q) → Q := fun Q q1 q2 q3 => by
      by_cases t1 : s.size = 0
      · rw [if_pos t1] at ha; exact q1 t1 ha
      · rw [if_neg t1] at ha
        by_cases t2 : 800 < s.size
        · rw [if_pos t2] at ha; exact q2 t1 t2 ha
        · rw [if_neg t2] at ha; exact q3 t1 t2 (by rw [ha]; exact HAE.out)
    have KEY := Lib.hid key
    clear key ha hAL
    rcases HEO4.out rfl with t4 | t4
    all_goals (
      have HOO := Lib.hid HOL.out
      rw [t4] at HOO
      have HT4 := Lib.hid t4
      subst t4
      refine KEY.out _ (fun t1 e1 => ?_) (fun t1 t2 e1 => ?_) (fun t1 t2 e1 => ?_)
      · obtain rfl : s = ⟨#[]⟩ := by
          obtain ⟨x⟩ := s
          rw [Array.eq_empty_of_size_eq_zero t1]
        rw [e1] at HAL
        obtain ⟨l1, l2⟩ := HAL.out (by decide)
        subst e1
        try (have l3 := HOO.out (by decide))
        clear t1 hs
        go_wp2_with fail
        go_ret
        exact ⟨by first | rfl | simp, HB6.out⟩
      · have hsn : (s.toList == (⟨#[]⟩ : ByteArray).toList) = false := str_ne (by rintro rfl; exact t1 rfl)
        have hse : s.toList.isEmpty = false := by
          cases h : s.toList with
          | nil => rw [h, show (⟨#[]⟩ : ByteArray).toList = [] from by kernel_rfl] at hsn; exact absurd hsn (by decide)
          | cons a l => rfl
        have t2' : (800 : Int) < s.size := by omega
        rw [e1] at HAL
        obtain ⟨l1, l2⟩ := HAL.out (by decide)
        subst e1
        try (have l3 := HOO.out (by decide))
        clear hsn t1 t2
        go_wp2_with fail
        go_ret
        exact ⟨by first | rfl | simp, HB6.out⟩
      · have hsn : (s.toList == (⟨#[]⟩ : ByteArray).toList) = false := str_ne (by rintro rfl; exact t1 rfl)
        have hse : s.toList.isEmpty = false := by
          cases h : s.toList with
          | nil => rw [h, show (⟨#[]⟩ : ByteArray).toList = [] from by kernel_rfl] at hsn; exact absurd hsn (by decide)
          | cons a l => rfl
        have t2' : ¬ ((800 : Int) < s.size) := by omega
        try (have l3 := HOO.out (by decide))
        clear hsn t1 t2
        rcases e1 with e1 | e1 | e1
        all_goals (
          rw [e1] at HAL
          try (have l12 := HAL.out (by decide); obtain ⟨l1, l2⟩ := l12)
          subst e1
          go_wp2_with fail
          go_ret
          exact ⟨by first | rfl | simp, HB6.out⟩))
  · have e1 := HEA.out
    rw [if_neg t0] at e1
    have e2 := HEOF.out t0
    obtain ⟨l1, l2⟩ := HAL.out (by rw [e1]; exact t0)
    have l3 := HOL.out (by rw [e2]; exact t0)
    have u1 : (EF != 0) = true := by simp [t0]
    subst e1 e2
    clear t0
    go_wp2_with fail
    go_ret
    exact ⟨by first | rfl | simp, HB6.out⟩

set_option maxRecDepth 100000 in
theorem journalTells_lifted (os : Os) (started : os.Started) (H : Type) (enc : TypeId × Value → H) :
    ReturnsInHanded {} Try.checked os 6 .any (Rows.journalTellsSpec.pre6 enc Try.prog Try.f6 Rows.journalTellsRow.domain false) (Rows.journalTellsSpec.post enc Try.prog Try.f6 false true false false) := by
  refine returnsInHanded_of_change_sized (C := Try.checked) Try.own started (by kernel_rfl) Try.func6
    (ChangeSpec.witness6 (enc := enc) (C := Try.checked) false ⟨#[], #[.agg #[.slice none 0 0], .string ⟨#[]⟩], []⟩ 8 (by kernel_rfl) (by kernel_rfl) (by kernel_rfl) (by kernel_rfl)) ?_
  intro W base args ds gs before hval0 hW hcnd hsz0 _
  have hval : ∀ (j : Nat) t v, Try.f6.params[j]? = some t → args[j]? = some v → Value.okWide Try.prog W .any base t v := hval0
  have hsz : (DataW.weightsEach Try.prog (Try.f6.params.toList ++ Rows.journalTellsSpec.plain.varTypes Try.prog) (ds ++ gs)).all (· ≤ reachBytes) = true := hsz0
  have hW' := hW
  obtain ⟨p, q, hA0, hV, rfl, hfz, hnd⟩ := hW
  have hA : DataW.TrodAll enc Try.prog W 0 (fun _ => true) true Try.f6.params.toList args.toList ds p := hA0
  rw [Try.params6] at hA hval hsz
  obtain ⟨v0, vs0, d0, ds0, p0, q0, hargs, rfl, rfl, h0, r0⟩ := trodAll_cons hA
  obtain ⟨v1, vs1, d1, ds1, p1, q1, rfl, rfl, rfl, h1, r1⟩ := trodAll_cons r0
  obtain ⟨rfl, rfl, rfl⟩ := trodAll_nil r1
  obtain rfl : args = #[v0, v1] := by cases args; simp_all
  obtain ⟨rfl, rfl⟩ := trodVars_none hV
  have ft0 := fits_each hsz (j := 0) rfl rfl
  obtain ⟨f, rfl, ok0⟩ := open_Flash (hval 0 24 v0 rfl rfl) h0 ft0
  obtain ⟨s, rfl, rfl, rfl, w1⟩ := open_string Try.underlying9 (hval 1 9 v1 rfl rfl) h1
  have z1 : s.size ≤ 140737488351232 := by have := sized_string hsz (j := 1) (t := 9) rfl rfl; simpa [reachBytes] using this
  refine (JournalTells_any f s W ok0 z1).mono fun e W' ⟨he, hb⟩ => ?_
  subst he
  exact ⟨_, rfl, law_post Try.laidOut hW' rfl (by decide +kernel) rfl Try.underlying4 rfl rfl rfl hb⟩

theorem journalTells_holds : Rows.JournalTellsSaid :=
  OpenClaim.holds_of_wide 6 Try.f6 rfl rfl rfl rfl rfl rfl rfl ⟨rfl, rfl, rfl, rfl, rfl⟩ rfl rfl rfl rfl rfl (by kernel_rfl) Try.func6 (by kernel_rfl)
    (of_decide_eq_true (by kernel_rfl)) (by unfold Func.isWrapper; first | (rw [if_pos (by decide +kernel)]; kernel_rfl) | (rw [if_neg (by decide +kernel)]; exact ⟨rfl, rfl⟩))
    (fun os started H enc _ => journalTells_lifted os started H enc)
#print axioms journalTells_holds

end Go.Proofs.Ytpmjgkngkaleeaa
