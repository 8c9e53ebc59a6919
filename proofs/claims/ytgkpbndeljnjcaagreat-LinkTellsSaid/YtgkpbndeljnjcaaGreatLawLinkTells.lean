import Derived.Test.YtgkpbndeljnjcaaGreatLinkBegun
import Derived.Test.YtgkpbndeljnjcaaGreatOpen
/- LinkTells: Image and Area answer just what the document says, errors too. No condition. -/
namespace Go.Proofs.YtgkpbndeljnjcaaGreat
open Go.ChangeShapes Go.WideShapes Go.ChangeAt Go.RowKit Go.WideMaps Go.WideElems
open Go.ChangeMaps (setBlock shut_map_nil open_string shut_string keptBut_setBlock frozen?_setBlock heap_setBlock_same)
open Gs (Tx)

set_option maxRecDepth 100000 in
set_option maxHeartbeats 8000000 in
theorem LinkTells_any (k : Krn) (A : Option Addr) (l : List Plc) (c : Nat) (nm : ByteArray) (w : World) (hk : k.ok w) (h : PlsOk w A l) (_hn : nm.size ≤ 140737488351232) :
    Calls Tryz.prog 3 #[k.v, .slice A l.length c, .string nm] w fun e w' => e = .returned (.bool true) ∧ Below w.heap.size w w' := by
  obtain ⟨w0, hw0⟩ : ∃ w0, w0 = w.alloc (.cells #[.int .i64 k.major, .int .i64 k.minor, .slice k.eA k.ex.length k.eC] 24) := ⟨_, rfl⟩
  obtain ⟨g0, g1, g2, hz, hb0⟩ := box3 hw0
  have hz0 : w.heap.size < w0.heap.size := by omega
  have H0 := Lib.hid hb0
  have hw0' := hw0.symm
  have HP := Lib.hid h
  have HK := Lib.hid hk
  have c1 := Lib.hid (fun W (hb : Below w.heap.size w W) => Image_any k A c l nm W (hk.below hb) (h.below hb))
  have c2 := Lib.hid (fun W (hb : Below w.heap.size w W) => Area_any k A c l W (hk.below hb) (h.below hb))
  have c3 := Lib.hid (fun W (hb : Below w.heap.size w W) => CheckLink_any k A c l W (hk.below hb) (h.below hb))
  have c4 := Lib.hid (fun W (hb : Below w.heap.size w W) => PlaceOf_any A c l nm W (h.row.below hb) h.len)
  have c5 := Lib.hid (fun (e : linkErr k l = 0) W (hb : Below w.heap.size w W) => AreaOf_any k A c l W (hk.below hb) (h.below hb) e)
  have c6 := Lib.hid (fun (e : linkErr k l = 0) W (hb : Below w.heap.size w W) j (hj : j < l.length) => have q := plc_link e l[j] (List.getElem_mem _); ImageOf_any k A c l j W hj (hk.below hb) (h.below hb) (linkErr_ok e).2.2.2 q.1 q.2.1 q.2.2)
  obtain ⟨T1, hT1⟩ : ∃ T1, T1 = imageT k l nm := ⟨_, rfl⟩
  obtain ⟨E1, hE1⟩ : ∃ E1, E1 = imageErr k l nm := ⟨_, rfl⟩
  obtain ⟨T2, hT2⟩ : ∃ T2, T2 = areaT k l := ⟨_, rfl⟩
  obtain ⟨E2, hE2⟩ : ∃ E2, E2 = areaErr k l := ⟨_, rfl⟩
  simp only [← hT1, ← hE1, ← hT2, ← hE2] at c1 c2 c5
  unfold imageT at hT1
  unfold imageErr at hE1
  have hT2' : linkErr k l ≠ 0 → T2 = [] := fun e => by rw [hT2]; unfold areaT; rw [if_pos e]
  have hE2' : linkErr k l ≠ 0 → E2 = linkErr k l := fun e => by rw [hE2]; unfold areaErr; rw [if_pos e]
  obtain ⟨L, hL⟩ : ∃ L, L = linkErr k l := ⟨_, rfl⟩
  simp only [← hL] at c3 c5 c6 hT1 hE1 hT2' hE2'
  have hbs : bs [] = ⟨#[]⟩ := rfl
  clear hw0 hb0 hz h hk hT2 hE2 hL
  by_cases t1 : L = 0
  · subst t1
    rw [if_neg (by omega)] at hT1 hE1
    have c5' := Lib.hid (c5.out rfl)
    have c6' := Lib.hid (c6.out rfl)
    clear hT2' hE2' c5 c6
    rcases find_cases (named nm) l with ⟨e1, e2⟩ | ⟨j, hj, e1, e2⟩
    · rw [e2] at hT1 hE1
      simp only at hT1 hE1
      rw [e1] at c4
      subst hT1 hE1
      rw [hbs] at c1
      clear e1 e2 hbs c6'
      go_enter Tryz.func3, Tryz.ntmps3
      go_wp2_with (first
        | (go_at_call 4; (with_reducible refine (c1.out _ H0.out).mono ?_); rintro e w1 ⟨rfl, hb1⟩
           have HB1 := Lib.hid (H0.out.trans (hb1.mono (by omega)))
           have k0 := (hb1.cell (p := ⟨w.heap.size, 0, none⟩) hz0).trans g0
           have k1 := (hb1.cell (p := ⟨w.heap.size, 1, none⟩) hz0).trans g1
           have k2 := (hb1.cell (p := ⟨w.heap.size, 2, none⟩) hz0).trans g2
           have hz1 : w.heap.size < w1.heap.size := (by have := hb1.size; omega)
           clear hb1)
        | (go_at_call 5; (with_reducible refine (c2.out _ HB1.out).mono ?_); rintro e w2 ⟨rfl, hb2⟩
           have HB2 := Lib.hid (HB1.out.trans (hb2.mono HB1.out.size))
           have m0 := (hb2.cell (p := ⟨w.heap.size, 0, none⟩) hz1).trans k0
           have m1 := (hb2.cell (p := ⟨w.heap.size, 1, none⟩) hz1).trans k1
           have m2 := (hb2.cell (p := ⟨w.heap.size, 2, none⟩) hz1).trans k2
           have hz2 : w.heap.size < w2.heap.size := (by have := hb2.size; omega)
           clear hb2)
        | (go_at_call 6; (with_reducible refine (c3.out _ HB2.out).mono ?_); rintro e w3 ⟨rfl, hb3⟩
           have HB3 := Lib.hid (HB2.out.trans (hb3.mono HB2.out.size))
           have n0 := (hb3.cell (p := ⟨w.heap.size, 0, none⟩) hz2).trans m0
           have n1 := (hb3.cell (p := ⟨w.heap.size, 1, none⟩) hz2).trans m1
           have n2 := (hb3.cell (p := ⟨w.heap.size, 2, none⟩) hz2).trans m2
           have hz3 : w.heap.size < w3.heap.size := (by have := hb3.size; omega)
           clear hb3)
        | (go_at_call 7; (with_reducible refine (c4.out _ HB3.out).mono ?_); rintro e w5 ⟨rfl, hb5⟩
           have HB5 := Lib.hid (HB3.out.trans (hb5.mono HB3.out.size))
           have x0 := (hb5.cell (p := ⟨w.heap.size, 0, none⟩) hz3).trans n0
           have x1 := (hb5.cell (p := ⟨w.heap.size, 1, none⟩) hz3).trans n1
           have x2 := (hb5.cell (p := ⟨w.heap.size, 2, none⟩) hz3).trans n2
           have hz5 : w.heap.size < w5.heap.size := (by have := hb5.size; omega)
           clear hb5)
        | (go_at_call 9; (with_reducible refine (c5'.out _ HB5.out).mono ?_); rintro e w6 ⟨rfl, hb6⟩
           have HB6 := Lib.hid (HB5.out.trans (hb6.mono HB5.out.size))
           clear hb6)
        | (go_at_call 10; (with_reducible refine (linkBegun_any _).mono ?_); rintro e w4 ⟨rfl, hb4⟩))
      go_ret
      exact ⟨by simp, HB6.out.trans (hb4.mono HB6.out.size)⟩
    · rw [e2] at hT1 hE1
      simp only at hT1 hE1
      rw [e1] at c4
      have cI := Lib.hid (fun W hb => c6'.out W hb j hj)
      rw [← hT1, ← hE1] at cI
      have hj' : ¬ (j : Int) < 0 := by omega
      clear e1 e2 hbs c6' hT1 hE1
      go_enter Tryz.func3, Tryz.ntmps3
      go_wp2_with (first
        | (go_at_call 4; (with_reducible refine (c1.out _ H0.out).mono ?_); rintro e w1 ⟨rfl, hb1⟩
           have HB1 := Lib.hid (H0.out.trans (hb1.mono (by omega)))
           have k0 := (hb1.cell (p := ⟨w.heap.size, 0, none⟩) hz0).trans g0
           have k1 := (hb1.cell (p := ⟨w.heap.size, 1, none⟩) hz0).trans g1
           have k2 := (hb1.cell (p := ⟨w.heap.size, 2, none⟩) hz0).trans g2
           have hz1 : w.heap.size < w1.heap.size := (by have := hb1.size; omega)
           clear hb1)
        | (go_at_call 5; (with_reducible refine (c2.out _ HB1.out).mono ?_); rintro e w2 ⟨rfl, hb2⟩
           have HB2 := Lib.hid (HB1.out.trans (hb2.mono HB1.out.size))
           have m0 := (hb2.cell (p := ⟨w.heap.size, 0, none⟩) hz1).trans k0
           have m1 := (hb2.cell (p := ⟨w.heap.size, 1, none⟩) hz1).trans k1
           have m2 := (hb2.cell (p := ⟨w.heap.size, 2, none⟩) hz1).trans k2
           have hz2 : w.heap.size < w2.heap.size := (by have := hb2.size; omega)
           clear hb2)
        | (go_at_call 6; (with_reducible refine (c3.out _ HB2.out).mono ?_); rintro e w3 ⟨rfl, hb3⟩
           have HB3 := Lib.hid (HB2.out.trans (hb3.mono HB2.out.size))
           have n0 := (hb3.cell (p := ⟨w.heap.size, 0, none⟩) hz2).trans m0
           have n1 := (hb3.cell (p := ⟨w.heap.size, 1, none⟩) hz2).trans m1
           have n2 := (hb3.cell (p := ⟨w.heap.size, 2, none⟩) hz2).trans m2
           have hz3 : w.heap.size < w3.heap.size := (by have := hb3.size; omega)
           clear hb3)
        | (go_at_call 7; (with_reducible refine (c4.out _ HB3.out).mono ?_); rintro e w5 ⟨rfl, hb5⟩
           have HB5 := Lib.hid (HB3.out.trans (hb5.mono HB3.out.size))
           have x0 := (hb5.cell (p := ⟨w.heap.size, 0, none⟩) hz3).trans n0
           have x1 := (hb5.cell (p := ⟨w.heap.size, 1, none⟩) hz3).trans n1
           have x2 := (hb5.cell (p := ⟨w.heap.size, 2, none⟩) hz3).trans n2
           have hz5 : w.heap.size < w5.heap.size := (by have := hb5.size; omega)
           clear hb5)
        | (go_at_call 8; (with_reducible refine (cI.out _ HB5.out).mono ?_); rintro e w7 ⟨rfl, hb7⟩
           have HB7 := Lib.hid (HB5.out.trans (hb7.mono HB5.out.size))
           have z0 := (hb7.cell (p := ⟨w.heap.size, 0, none⟩) hz5).trans x0
           have z1 := (hb7.cell (p := ⟨w.heap.size, 1, none⟩) hz5).trans x1
           have z2 := (hb7.cell (p := ⟨w.heap.size, 2, none⟩) hz5).trans x2
           have hz7 : w.heap.size < w7.heap.size := (by have := hb7.size; omega)
           clear hb7)
        | (go_at_call 9; (with_reducible refine (c5'.out _ HB7.out).mono ?_); rintro e w6 ⟨rfl, hb6⟩
           have HB6 := Lib.hid (HB7.out.trans (hb6.mono HB7.out.size))
           clear hb6)
        | (go_at_call 10; (with_reducible refine (linkBegun_any _).mono ?_); rintro e w4 ⟨rfl, hb4⟩))
      go_ret
      exact ⟨by simp, HB6.out.trans (hb4.mono HB6.out.size)⟩
  · rw [if_pos t1] at hT1 hE1
    rw [hT2' t1, hE2' t1] at c2
    subst hT1 hE1
    rw [hbs] at c1 c2
    have t1' : (E1 == 0) = false := by simp [t1]
    clear t1 hT2' hE2' c4 c5 c6 hbs
    go_enter Tryz.func3, Tryz.ntmps3
    go_wp2_with (first
      | (go_at_call 4; (with_reducible refine (c1.out _ H0.out).mono ?_); rintro e w1 ⟨rfl, hb1⟩
         have HB1 := Lib.hid (H0.out.trans (hb1.mono (by omega)))
         have k0 := (hb1.cell (p := ⟨w.heap.size, 0, none⟩) hz0).trans g0
         have k1 := (hb1.cell (p := ⟨w.heap.size, 1, none⟩) hz0).trans g1
         have k2 := (hb1.cell (p := ⟨w.heap.size, 2, none⟩) hz0).trans g2
         have hz1 : w.heap.size < w1.heap.size := (by have := hb1.size; omega)
         clear hb1)
      | (go_at_call 5; (with_reducible refine (c2.out _ HB1.out).mono ?_); rintro e w2 ⟨rfl, hb2⟩
         have HB2 := Lib.hid (HB1.out.trans (hb2.mono HB1.out.size))
         have m0 := (hb2.cell (p := ⟨w.heap.size, 0, none⟩) hz1).trans k0
         have m1 := (hb2.cell (p := ⟨w.heap.size, 1, none⟩) hz1).trans k1
         have m2 := (hb2.cell (p := ⟨w.heap.size, 2, none⟩) hz1).trans k2
         have hz2 : w.heap.size < w2.heap.size := (by have := hb2.size; omega)
         clear hb2)
      | (go_at_call 6; (with_reducible refine (c3.out _ HB2.out).mono ?_); rintro e w3 ⟨rfl, hb3⟩
         have HB3 := Lib.hid (HB2.out.trans (hb3.mono HB2.out.size))
         have n0 := (hb3.cell (p := ⟨w.heap.size, 0, none⟩) hz2).trans m0
         have n1 := (hb3.cell (p := ⟨w.heap.size, 1, none⟩) hz2).trans m1
         have n2 := (hb3.cell (p := ⟨w.heap.size, 2, none⟩) hz2).trans m2
         have hz3 : w.heap.size < w3.heap.size := (by have := hb3.size; omega)
         clear hb3)
      | (go_at_call 10; (with_reducible refine (linkBegun_any _).mono ?_); rintro e w4 ⟨rfl, hb4⟩))
    go_ret
    exact ⟨by simp, HB3.out.trans (hb4.mono HB3.out.size)⟩

set_option maxRecDepth 100000 in
theorem linkTells_lifted (os : Os) (started : os.Started) (H : Type) (enc : TypeId × Value → H) :
    ReturnsInHanded {} Tryz.checked os 3 .any (Rows.linkTellsSpec.pre6 enc Tryz.prog Tryz.f3 Rows.linkTellsRow.domain false) (Rows.linkTellsSpec.post enc Tryz.prog Tryz.f3 false true false false) := by
  refine returnsInHanded_of_change_sized (C := Tryz.checked) Tryz.own started (by kernel_rfl) Tryz.func3
    (ChangeSpec.witness6 (enc := enc) (C := Tryz.checked) false ⟨#[], #[.agg #[.int .i64 0, .int .i64 0, .slice none 0 0], .slice none 0 0, .string ⟨#[]⟩], []⟩ 8 (by kernel_rfl) (by kernel_rfl) (by kernel_rfl) (by kernel_rfl)) ?_
  intro W base args ds gs before hval0 hW hcnd hsz0 _
  have hval : ∀ (j : Nat) t v, Tryz.f3.params[j]? = some t → args[j]? = some v → Value.okWide Tryz.prog W .any base t v := hval0
  have hsz : (DataW.weightsEach Tryz.prog (Tryz.f3.params.toList ++ Rows.linkTellsSpec.plain.varTypes Tryz.prog) (ds ++ gs)).all (· ≤ reachBytes) = true := hsz0
  have hW' := hW
  obtain ⟨p, q, hA0, hV, rfl, hfz, hnd⟩ := hW
  have hA : DataW.TrodAll enc Tryz.prog W 0 (fun _ => true) true Tryz.f3.params.toList args.toList ds p := hA0
  rw [Tryz.params3] at hA hval hsz
  obtain ⟨v0, vs0, d0, ds0, p0, q0, hargs, rfl, rfl, h0, r0⟩ := trodAll_cons hA
  obtain ⟨v1, vs1, d1, ds1, p1, q1, rfl, rfl, rfl, h1, r1⟩ := trodAll_cons r0
  obtain ⟨v2, vs2, d2, ds2, p2, q2, rfl, rfl, rfl, h2, r2⟩ := trodAll_cons r1
  obtain ⟨rfl, rfl, rfl⟩ := trodAll_nil r2
  obtain rfl : args = #[v0, v1, v2] := by cases args; simp_all
  obtain ⟨rfl, rfl⟩ := trodVars_none hV
  have ft0 := fits_each hsz (j := 0) rfl rfl
  obtain ⟨k, rfl, ok0⟩ := open_Kernel (hval 0 24 v0 rfl rfl) h0 ft0
  have ft1 := fits_each hsz (j := 1) rfl rfl
  obtain ⟨lA, l, lc, rfl, ok1⟩ := open_Placeds (hval 1 25 v1 rfl rfl) h1 ft1
  obtain ⟨name, rfl, rfl, rfl, w2⟩ := open_string Tryz.underlying9 (hval 2 9 v2 rfl rfl) h2
  have z2 : name.size ≤ 140737488351232 := by have := sized_string hsz (j := 2) (t := 9) rfl rfl; simpa [reachBytes] using this
  refine (LinkTells_any k lA l lc name W ok0 ok1 z2).mono fun e W' ⟨he, hb⟩ => ?_
  subst he
  exact ⟨_, rfl, law_post Tryz.laidOut hW' rfl (by decide +kernel) rfl Tryz.underlying4 rfl rfl rfl hb⟩

theorem linkTells_holds : Rows.LinkTellsSaid :=
  OpenClaim.holds_of_wide 3 Tryz.f3 rfl rfl rfl rfl rfl rfl rfl ⟨rfl, rfl, rfl, rfl, rfl⟩ rfl rfl rfl rfl rfl (by kernel_rfl) Tryz.func3 (by kernel_rfl)
    (of_decide_eq_true (by kernel_rfl)) (by unfold Func.isWrapper; first | (rw [if_pos (by decide +kernel)]; kernel_rfl) | (rw [if_neg (by decide +kernel)]; exact ⟨rfl, rfl⟩))
    (fun os started H enc _ => linkTells_lifted os started H enc)
#print axioms linkTells_holds


end Go.Proofs.YtgkpbndeljnjcaaGreat
