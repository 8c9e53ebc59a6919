import Derived.Test.YtgkpbndeljnjcaaGrBegun
import Derived.Test.YtgkpbndeljnjcaaGrFacts
import Derived.Test.YtgkpbndeljnjcaaGrLens
import Derived.Test.YtgkpbndeljnjcaaOpen
/- GraphTurned: one needs another one just if that one is used by it; what is needed by what is needed is needed. No condition. -/
namespace Go.Proofs.Ytgkpbndeljnjcaa
open Go.ChangeShapes Go.WideShapes Go.ChangeAt Go.RowKit Go.WideMaps Go.WideElems
open Go.ChangeMaps (setBlock shut_map_nil open_string shut_string keptBut_setBlock frozen?_setBlock heap_setBlock_same)
open Gs (Tx)

set_option maxRecDepth 100000 in
set_option maxHeartbeats 8000000 in
theorem GraphTurned_any (A : Option Addr) (l : List Plc) (c : Nat) (a b : ByteArray) (w : World) (h : PlsOk w A l) (_ha : a.size ≤ 140737488351232) (_hb : b.size ≤ 140737488351232) :
    Calls Try.prog 4 #[.slice A l.length c, .string a, .string b] w fun e w' => e = .returned (.bool true) ∧ Below w.heap.size w w' := by
  have hl := h.len
  have LX := Lib.hid (show (needsT l a).length ≤ big from Nat.le_trans (needsT_len l a) hl)
  have LY := Lib.hid (show (usersT l b).length ≤ big from Nat.le_trans (usersT_len l b) hl)
  have LZ := Lib.hid (show (needsT l b).length ≤ big from Nat.le_trans (needsT_len l b) hl)
  have c1 := Lib.hid (fun W (hb : Below w.heap.size w W) => Needs_any A c l a W (h.below hb))
  have c2 := Lib.hid (fun W (hb : Below w.heap.size w W) => Users_any A c l b W (h.below hb))
  have c3 := Lib.hid (fun W (hb : Below w.heap.size w W) => Needs_any A c l b W (h.below hb))
  have hT : ofErr l a = 0 → ofErr l b = 0 → decide (tx b ∈ needsT l a) = decide (tx a ∈ usersT l b) ∧ (tx b ∈ needsT l a → ∀ t, t ∈ needsT l b → t ∈ needsT l a) := fun h1 h2 =>
    ⟨by rw [Bool.eq_iff_iff, decide_eq_true_eq, decide_eq_true_eq]; exact turned_mem h1 h2, fun h3 t ht => needs_trans h1 h2 h3 ht⟩
  have hX : ofErr l a ≠ 0 → needsT l a = [] := fun h => by unfold needsT; rw [if_pos h]
  obtain ⟨E, hEE⟩ : ∃ E, E = ofErr l a := ⟨_, rfl⟩
  obtain ⟨F, hFF⟩ : ∃ F, F = ofErr l b := ⟨_, rfl⟩
  obtain ⟨X, hXX⟩ : ∃ X, X = needsT l a := ⟨_, rfl⟩
  obtain ⟨Y, hYY⟩ : ∃ Y, Y = usersT l b := ⟨_, rfl⟩
  obtain ⟨Z, hZZ⟩ : ∃ Z, Z = needsT l b := ⟨_, rfl⟩
  simp only [← hEE, ← hFF, ← hXX, ← hYY, ← hZZ] at LX LY LZ c1 c2 c3 hT hX
  have HT := Lib.hid hT
  have HX := Lib.hid hX
  clear hEE hFF hXX hYY hZZ hT hX h hl
  go_enter Try.func4, Try.ntmps4
  go_wp2_with fail
  (with_reducible refine (graphBegun_any _).mono ?_); rintro e w0 ⟨rfl, hb0⟩
  have HB0 := Lib.hid hb0
  clear hb0
  go_wp2_with fail
  (with_reducible refine (c1.out _ HB0.out).mono ?_); rintro e w1 ⟨⟨v1, rfl, ht1⟩, hb1⟩
  obtain ⟨A1, d1, rfl, hr1⟩ := ht1.form
  have HR1 := Lib.hid hr1
  have HB1 := Lib.hid (HB0.out.trans (hb1.mono HB0.out.size))
  clear ht1 hr1 hb1 c1
  go_wp2_with fail
  (with_reducible refine (c2.out _ HB1.out).mono ?_); rintro e w2 ⟨⟨v2, rfl, ht2⟩, hb2⟩
  obtain ⟨A2, d2, rfl, hr2⟩ := ht2.form
  have HR2 := Lib.hid hr2
  have HX2 := Lib.hid hb2
  have HB2 := Lib.hid (HB1.out.trans (hb2.mono HB1.out.size))
  clear ht2 hr2 hb2 c2
  go_wp2_with fail
  (with_reducible refine (c3.out _ HB2.out).mono ?_); rintro e w3 ⟨⟨v3, rfl, ht3⟩, hb3⟩
  obtain ⟨A3, d3, rfl, hr3⟩ := ht3.form
  have KR3 := Lib.hid hr3
  have KR2 := Lib.hid (HR2.out.below hb3)
  have KR1 := Lib.hid ((HR1.out.below HX2.out).below hb3)
  have HB3 := Lib.hid (HB2.out.trans (hb3.mono HB2.out.size))
  clear ht3 hr3 hb3 c3 HR1 HR2 HX2
  by_cases t1 : E = 0
  · subst t1
    by_cases t2 : F = 0
    · subst t2
      obtain ⟨T1, T2⟩ := HT.out rfl rfl
      have HT1 := Lib.hid T1
      have HT2 := Lib.hid T2
      clear T1 T2
      have h1 := Lib.hid (fun W q (hw : W = w3.drewN q) => has_any A1 d1 X b W (hw ▸ KR1.out) LX.out)
      have h2 := Lib.hid (fun W q (hw : W = w3.drewN q) => has_any A2 d2 Y a W (hw ▸ KR2.out) LY.out)
      rw [HT1.out] at h1
      obtain ⟨bx, hbx⟩ : ∃ bx, bx = decide (tx a ∈ Y) := ⟨_, rfl⟩
      simp only [← hbx] at h1 h2
      have HBX := Lib.hid (HT1.out.trans hbx.symm)
      clear hbx
      go_wp2_with fail
      (with_reducible refine (h1.out w3 0 rfl).mono ?_); rintro e w4 ⟨rfl, q4, rfl⟩
      go_wp2_with fail
      (with_reducible refine (h2.out _ q4 rfl).mono ?_); rintro e w5 ⟨rfl, q5, rfl⟩
      have tb : (bx != bx) = false := by cases bx <;> rfl
      go_wp2_with fail
      clear tb
      go_loopw [13] (fun i wr => ∃ j q : Nat, j ≤ Z.length ∧ i = .int .i64 j ∧ wr = w3.drewN q) (fun i _ => Z.length - (intOf i).toNat)
      case atStart => exact ⟨0, _, by omega, rfl, rfl⟩
      case round =>
        obtain ⟨j, q, hj, rfl, rfl⟩ := hrel
        have hZ := LZ.out
        unfold big at hZ
        by_cases hlt : j < Z.length
        · have hlt' : (j : Int) < Z.length := by omega
          cases bx
          · go_wp2_with fail
            (with_reducible refine (h1.out _ q rfl).mono ?_); rintro e w6 ⟨rfl, q6, rfl⟩
            go_wp2_with fail
            go_ret
            exact ⟨rfl, below_drewN HB3.out _⟩
          · have hm := Lib.hid (HT2.out (of_decide_eq_true HBX.out) Z[j] (List.getElem_mem _))
            obtain ⟨ad, rfl, hab, k0⟩ := tx_at KR3.out (Below.refl w3.heap.size w3) j hlt
            have h3 := Lib.hid (fun W q (hw : W = w3.drewN q) => has_any A1 d1 X (bs Z[j]) W (hw ▸ KR1.out) LX.out)
            simp only [tx_bs, decide_eq_true hm.out] at h3
            obtain ⟨s, hs⟩ : ∃ s, s = bs Z[j] := ⟨_, rfl⟩
            simp only [← hs] at h3 k0
            clear hs
            go_wp2_with fail
            (with_reducible refine (h1.out _ q rfl).mono ?_); rintro e w6 ⟨rfl, q6, rfl⟩
            go_wp2_with fail
            (with_reducible refine (h3.out _ (q + q6) rfl).mono ?_); rintro e w7 ⟨rfl, q7, rfl⟩
            go_wp2_with fail
            go_roundw
            case rel => exact ⟨j + 1, _, by omega, by go_num, rfl⟩
            case measure => (simp [intOf]; try omega)
        · have hlt' : decide (j < Z.length) = false := decide_eq_false hlt
          go_wp2_with fail
          go_ret
          exact ⟨rfl, below_drewN HB3.out _⟩
    · have t2' : (F != 0) = true := by simp [t2]
      go_wp2_with fail
      go_ret
      exact ⟨rfl, HB3.out⟩
  · have t1' : (E != 0) = true := by simp [t1]
    have t1'' : (E == 0) = false := by simp [t1]
    have HXE := Lib.hid (HX.out t1)
    rw [HXE.out]
    clear t1
    go_wp2_with fail
    go_ret
    exact ⟨rfl, HB3.out⟩

set_option maxRecDepth 100000 in
theorem graphTurned_lifted (os : Os) (started : os.Started) (H : Type) (enc : TypeId × Value → H) :
    ReturnsInHanded {} Try.checked os 4 .any (Rows.graphTurnedSpec.pre6 enc Try.prog Try.f4 Rows.graphTurnedRow.domain false) (Rows.graphTurnedSpec.post enc Try.prog Try.f4 false true false false) := by
  refine returnsInHanded_of_change_sized (C := Try.checked) Try.own started (by kernel_rfl) Try.func4
    (ChangeSpec.witness6 (enc := enc) (C := Try.checked) false ⟨#[], #[.slice none 0 0, .string ⟨#[]⟩, .string ⟨#[]⟩], []⟩ 8 (by kernel_rfl) (by kernel_rfl) (by kernel_rfl) (by kernel_rfl)) ?_
  intro W base args ds gs before hval0 hW hcnd hsz0 _
  have hval : ∀ (j : Nat) t v, Try.f4.params[j]? = some t → args[j]? = some v → Value.okWide Try.prog W .any base t v := hval0
  have hsz : (DataW.weightsEach Try.prog (Try.f4.params.toList ++ Rows.graphTurnedSpec.plain.varTypes Try.prog) (ds ++ gs)).all (· ≤ reachBytes) = true := hsz0
  have hW' := hW
  obtain ⟨p, q, hA0, hV, rfl, hfz, hnd⟩ := hW
  have hA : DataW.TrodAll enc Try.prog W 0 (fun _ => true) true Try.f4.params.toList args.toList ds p := hA0
  rw [Try.params4] at hA hval hsz
  obtain ⟨v0, vs0, d0, ds0, p0, q0, hargs, rfl, rfl, h0, r0⟩ := trodAll_cons hA
  obtain ⟨v1, vs1, d1, ds1, p1, q1, rfl, rfl, rfl, h1, r1⟩ := trodAll_cons r0
  obtain ⟨v2, vs2, d2, ds2, p2, q2, rfl, rfl, rfl, h2, r2⟩ := trodAll_cons r1
  obtain ⟨rfl, rfl, rfl⟩ := trodAll_nil r2
  obtain rfl : args = #[v0, v1, v2] := by cases args; simp_all
  obtain ⟨rfl, rfl⟩ := trodVars_none hV
  have ft0 := fits_each hsz (j := 0) rfl rfl
  obtain ⟨lA, l, lc, rfl, ok0⟩ := open_Placeds (hval 0 22 v0 rfl rfl) h0 ft0
  obtain ⟨a, rfl, rfl, rfl, w1⟩ := open_string Try.underlying9 (hval 1 9 v1 rfl rfl) h1
  have z1 : a.size ≤ 140737488351232 := by have := sized_string hsz (j := 1) (t := 9) rfl rfl; simpa [reachBytes] using this
  obtain ⟨b, rfl, rfl, rfl, w2⟩ := open_string Try.underlying9 (hval 2 9 v2 rfl rfl) h2
  have z2 : b.size ≤ 140737488351232 := by have := sized_string hsz (j := 2) (t := 9) rfl rfl; simpa [reachBytes] using this
  refine (GraphTurned_any lA l lc a b W ok0 z1 z2).mono fun e W' ⟨he, hb⟩ => ?_
  subst he
  exact ⟨_, rfl, law_post Try.laidOut hW' rfl (by decide +kernel) rfl Try.underlying4 rfl rfl rfl hb⟩

theorem graphTurned_holds : Rows.GraphTurnedSaid :=
  OpenClaim.holds_of_wide 4 Try.f4 rfl rfl rfl rfl rfl rfl rfl ⟨rfl, rfl, rfl, rfl, rfl⟩ rfl rfl rfl rfl rfl (by kernel_rfl) Try.func4 (by kernel_rfl)
    (of_decide_eq_true (by kernel_rfl)) (by unfold Func.isWrapper; first | (rw [if_pos (by decide +kernel)]; kernel_rfl) | (rw [if_neg (by decide +kernel)]; exact ⟨rfl, rfl⟩))
    (fun os started H enc _ => graphTurned_lifted os started H enc)
#print axioms graphTurned_holds


end Go.Proofs.Ytgkpbndeljnjcaa
