import Derived.Test.YtpmjgkngkaleeaaJourAddW
/- journal.Append, journal.Open, journal.Format (chapter L). -/
namespace Go.Proofs.Ytpmjgkngkaleeaa
open Go.RowKit

/-- the end of a function that hands back a flash, in a cell, and two more -/
theorem fl_end3 {fn : Func} {p u v : Tmp} (h : fn.results = #[.cell p 24, .tmp u, .tmp v]) {tmps : Array Value} {W : World} {R : Nat} {x old : Value} {Q : Ending → World → Prop}
    (hp : tmps.getD p undef = .pointer (some ⟨R, 0, none⟩)) (hR : W.heap[R]? = some (.cells #[old] 24 (0, 0)))
    (hQ : Q (.returned (.tuple #[.agg #[x], tmps.getD u undef, tmps.getD v undef])) (W.setCell ⟨R, 0, none⟩ x)) : bodyPost Try.prog fn Q .ret ⟨tmps, []⟩ (W.setCell ⟨R, 0, none⟩ x) := by
  have hR9 : (W.setCell ⟨R, 0, none⟩ x).heap[R]? = some (.cells #[x] 24 (0, 0)) := heap_setCell_same W R 0 _ _ x hR
  have hp' : tmps[p]?.getD undef = .pointer (some ⟨R, 0, none⟩) := by simpa using hp
  have hr : (results fn tmps).run Try.prog (W.setCell ⟨R, 0, none⟩ x) = .ok (.tuple #[.agg #[x], tmps.getD u undef, tmps.getD v undef]) (W.setCell ⟨R, 0, none⟩ x) := by
    simp [results, h, hp', asAddr, run_loadVar_row _ R 24 24 #[x] (0, 0) _ hR9 Try.underlying24 rfl Try.sizeFlash]
  exact bodyPost_ret hr rfl hQ
/-- what Append hands back -/
def AppPost (w : World) (E : Int) (F0 : List ByteArray) (D0 : List Ded) (e : Ending) (w' : World) : Prop := Below w.heap.size w w' ∧ ∃ (f' : Fl) (A : Option Addr) (c : Nat) (D : List Ded), e = .returned (.tuple #[f'.v, .slice A D.length c, .int .i64 E]) ∧ FlRes w' w.heap.size f' F0 ∧ DOwn w' w.heap.size (.slice A D.length c) D ∧ D = D0
theorem AppPost.err {w w' : World} {E : Int} {F0 : List ByteArray} {D0 : List Ded} (h : Below w.heap.size w w') (hF : F0 = []) (hD : D0 = []) : AppPost w E F0 D0 (.returned (.tuple #[.agg #[.slice none 0 0], .slice none 0 0, .int .i64 E])) w' := by
  subst hF hD
  exact ⟨h, noFl, none, 0, [], rfl, ⟨noFl_own _ _, Nat.le_refl _, rfl⟩, World.ownsRow_nil _ _ _ _, rfl⟩
def appRes (f : List ByteArray) (s : List UInt8) : List ByteArray := resIf (appErr f s.length) (doneL f (appDeeds f s))
def appDs (f : List ByteArray) (s : List UInt8) : List Ded := if appErr f s.length = 0 then appDeeds f s else []

set_option maxHeartbeats 4000000 in
set_option maxRecDepth 100000 in
theorem Append_any (f : Fl) (s : ByteArray) (w : World) (h : f.ok w) (hs : s.size ≤ big) :
    Calls Try.prog 23 #[f.v, .string s] w (AppPost w (appErr f.bl s.size) (appRes f.bl (bytesOf s)) (appDs f.bl (bytesOf s))) := by
  unfold big at hs
  obtain ⟨w1, hw1⟩ : ∃ w1, w1 = w.alloc (.cells #[.slice f.a f.bl.length f.c] 24) := ⟨_, rfl⟩
  obtain ⟨f0, hz1, hb1⟩ := box1 hw1
  obtain ⟨w2, hw2⟩ : ∃ w2, w2 = w1.alloc (.cells #[.slice none 0 0] 24) := ⟨_, rfl⟩
  obtain ⟨_, hR, hz2, hb2⟩ := box_new hw2
  have k0 := (hb2.cell (p := ⟨w.heap.size, 0, none⟩) (by simp; omega)).trans f0
  have HB2 := Lib.hid (hb1.trans (hb2.mono (by omega)))
  have HZ := Lib.hid (show w1.heap.size = w.heap.size + 1 ∧ w2.heap.size = w.heap.size + 2 by omega)
  have hw1' := hw1.symm
  have hw2' := hw2.symm
  have HR := Lib.hid hR
  have cF := Lib.hid (Check_any f w2 (h.below HB2.out))
  have H := Lib.hid h
  have HSL := Lib.hid (bytes_length s)
  unfold appRes appDs
  rw [HSL.out]
  obtain ⟨EA, hEA⟩ : ∃ E, E = appErr f.bl s.size := ⟨_, rfl⟩
  obtain ⟨EF, hEF⟩ : ∃ E, E = flErr f.bl := ⟨_, rfl⟩
  rw [← hEF] at cF
  rw [← hEA]
  have HEA := Lib.hid hEA
  obtain ⟨F0, hF0⟩ : ∃ F, F = resIf EA (doneL f.bl (appDeeds f.bl (bytesOf s))) := ⟨_, rfl⟩
  obtain ⟨D0, hD0⟩ : ∃ D, D = if EA = 0 then appDeeds f.bl (bytesOf s) else [] := ⟨_, rfl⟩
  rw [← hF0, ← hD0]
  have HF0 := Lib.hid hF0
  have HD0 := Lib.hid hD0
  have HERR := Lib.hid (show EA ≠ 0 → F0 = [] ∧ D0 = [] from fun h => ⟨by rw [hF0]; exact resIf_ne h, by rw [hD0]; exact if_neg h⟩)
  clear hF0 hD0
  unfold appErr at hEA
  rw [← hEF] at hEA
  have HEF := Lib.hid hEF
  clear hw1 hw2 hb1 hb2 hz1 hz2 f0 hR h hEF
  by_cases t0 : EF = 0
  · rw [if_pos t0] at hEA
    subst t0
    by_cases t1 : s.size = 0
    · rw [if_pos t1] at hEA
      obtain rfl : s = ⟨#[]⟩ := by
        obtain ⟨x⟩ := s
        rw [Array.eq_empty_of_size_eq_zero t1]
      subst hEA
      clear t1 hs
      go_enter Try.func23, Try.ntmps23
      go_wp2_with (
        go_at_call 21
        refine (cF.out).mono ?_
        rintro e w3 ⟨rfl, hb3⟩
        have hR3 := (hb3.block _ (by have := HZ.out; omega)).trans HR.out
        have z0 := cell_of_heap hR3 0
        have zf := free_of_heap hR3 0
        simp only [List.getElem?_toArray, List.getElem?_cons_zero] at z0
        have HR3 := Lib.hid hR3
        have HB3 := Lib.hid (HB2.out.trans (hb3.mono HB2.out.size))
        clear hR3 hb3)
      refine fl_end3 rfl rfl HR3.out ?_
      exact AppPost.err (HB3.out.setCell (p := ⟨w1.heap.size, 0, none⟩) (by have := HZ.out; simp; omega) _) (HERR.out (by decide)).1 (HERR.out (by decide)).2
    · rw [if_neg t1] at hEA
      have hsn : (s.toList == (⟨#[]⟩ : ByteArray).toList) = false := str_ne (by rintro rfl; exact t1 rfl)
      have hse : s.toList.isEmpty = false := by
        cases h : s.toList with
        | nil => rw [h, show (⟨#[]⟩ : ByteArray).toList = [] from by kernel_rfl] at hsn; exact absurd hsn (by decide)
        | cons a l => rfl
      by_cases t2 : 800 < s.size
      · rw [if_pos t2] at hEA
        have t2' : (800 : Int) < s.size := by omega
        subst hEA
        clear hsn t1 t2
        go_enter Try.func23, Try.ntmps23
        go_wp2_with (
          go_at_call 21
          refine (cF.out).mono ?_
          rintro e w3 ⟨rfl, hb3⟩
          have hR3 := (hb3.block _ (by have := HZ.out; omega)).trans HR.out
          have z0 := cell_of_heap hR3 0
          have zf := free_of_heap hR3 0
          simp only [List.getElem?_toArray, List.getElem?_cons_zero] at z0
          have HR3 := Lib.hid hR3
          have HB3 := Lib.hid (HB2.out.trans (hb3.mono HB2.out.size))
          clear hR3 hb3)
        refine fl_end3 rfl rfl HR3.out ?_
        exact AppPost.err (HB3.out.setCell (p := ⟨w1.heap.size, 0, none⟩) (by have := HZ.out; simp; omega) _) (HERR.out (by decide)).1 (HERR.out (by decide)).2
      · rw [if_neg t2] at hEA
        have t2' : ¬ ((800 : Int) < s.size) := by omega
        have HT1 := Lib.hid (show 1 ≤ s.size ∧ s.size ≤ 800 by omega)
        have cA := Lib.hid (fun W (hW : Below w.heap.size w W) => Add_any f s W (H.out.below hW) HEF.out.symm HT1.out.1 HT1.out.2)
        rw [← hEA] at cA
        have HEA2 := Lib.hid hEA
        clear hEA hsn t1 t2
        by_cases t3 : EA = 0
        · have HT := Lib.hid t3
          have HAF := Lib.hid (app_fits (f := f.bl) (s := bytesOf s) (by rw [HSL.out, ← HEA.out]; exact t3))
          obtain ⟨k, r, e0, e, ho, hfit, hds⟩ := HAF.out
          have HDK := Lib.hid (show ∀ d ∈ appDeeds f.bl (bytesOf s), dedErr f.bl.length d = 0 by rw [hds]; exact addD_ok hfit)
          have hdl : (appDeeds f.bl (bytesOf s)).length ≤ 5000 := by
            rw [hds]; unfold addD
            have h1 := putD_length e (bytesOf s)
            have h2 := putD_length (128 * f.bl.length - 5 * (k + 1)) (headB e (bytesOf s).length)
            have h3 : (headB e (bytesOf s).length).length = 4 := rfl
            have h4 := HT1.out.2
            rw [HSL.out] at h1
            rw [List.length_append, List.length_append, List.length_singleton]
            omega
          have HDL := Lib.hid hdl
          obtain ⟨DD, hDD⟩ : ∃ D, D = appDeeds f.bl (bytesOf s) := ⟨_, rfl⟩
          rw [← hDD] at HDK HDL cA HF0 HD0
          rw [t3] at HF0 HD0
          have HF1 := Lib.hid (HF0.out.trans (resIf_zero rfl))
          have HD1 := Lib.hid (HD0.out.trans (if_pos rfl))
          rw [if_pos t3] at cA
          subst t3
          clear ho hfit hds hdl hDD HF0 HD0 HAF
          go_enter Try.func23, Try.ntmps23
          go_wp2_with (first
            | (go_at_call 21
               refine (cF.out).mono ?_
               rintro e w3 ⟨rfl, hb3⟩
               have k3 := (hb3.cell (p := ⟨w.heap.size, 0, none⟩) (by have := HZ.out; simp; omega)).trans k0
               have HB23 := Lib.hid hb3
               have HB3 := Lib.hid (HB2.out.trans (hb3.mono HB2.out.size))
               clear hb3)
            | (go_at_call 42
               refine (cA.out _ HB3.out).mono ?_
               rintro e w4 ⟨hb4, A4, c4, D4, rfl, hO4, hD4⟩
               have k4 := (hb4.cell (p := ⟨w.heap.size, 0, none⟩) (cell_lt' k3)).trans k3
               have hb24 := HB23.out.trans (hb4.mono HB23.out.size)
               have HR4 := Lib.hid ((hb24.block _ (by have := HZ.out; omega)).trans HR.out)
               have HB4 := Lib.hid (HB2.out.trans (hb24.mono HB2.out.size))
               have HB24 := Lib.hid hb24
               have HW3 := Lib.hid HB3.out.size
               have HO4 := Lib.hid hO4
               have HDE4 := Lib.hid hD4
               have cX := Lib.hid (Done_any f A4 c4 D4 w4 (H.out.below HB4.out) HEF.out.symm (by rw [hD4]; exact HDK.out) ⟨hO4.row, by rw [hD4]; have := HDL.out; unfold big; omega⟩)
               clear hb4 hb24 hO4 hD4)
            | (go_at_call 30
               refine (cX.out).mono ?_
               rintro e w5 ⟨hb5, A5, c5, rfl, hc5, hO5⟩
               have hR5 := (hb5.block _ (by have := HZ.out; have := HB24.out.size; omega)).trans HR4.out
               have z0 := cell_of_heap hR5 0
               have zf := free_of_heap hR5 0
               simp only [List.getElem?_toArray, List.getElem?_cons_zero] at z0
               have HR5 := Lib.hid hR5
               have HB5 := Lib.hid (HB4.out.trans (hb5.mono HB4.out.size))
               have HO5 := Lib.hid hO5
               have HD5 := Lib.hid (HO4.out.below hb5 (Nat.le_refl _))
               have HC5 := Lib.hid hc5
               clear hR5 hb5 hO5 hc5))
          refine fl_end3 rfl rfl HR5.out ?_
          have hle := (doneL_ok HEF.out.symm (l := D4) (by rw [HDE4.out]; exact HDK.out)).2
          refine ⟨HB5.out.setCell (p := ⟨w1.heap.size, 0, none⟩) (by have := HZ.out; simp; omega) _, ⟨doneL f.bl D4, A5, c5⟩, A4, c4, D4, ?_, ⟨?_, ?_, ?_⟩, ?_, ?_⟩
          · show _ = Ending.returned (.tuple #[.agg #[.slice A5 (doneL f.bl D4).length c5], _, _]); rw [hle]; rfl
          · show TOwn _ _ (.slice A5 (doneL f.bl D4).length c5) _
            rw [hle]
            exact (HO5.out.set_other HR5.out (by decide) 0 _).more HB4.out.size
          · show (doneL f.bl D4).length ≤ c5
            rw [hle]; exact HC5.out
          · show doneL f.bl D4 = F0
            rw [HF1.out, HDE4.out]
          · exact (HD5.out.set_other HR5.out (by decide) 0 _).more HB3.out.size
          · rw [HD1.out, HDE4.out]
        · have u1 : (EA != 0) = true := by simp [t3]
          rw [if_neg t3] at cA
          have HT := Lib.hid t3
          clear t3
          go_enter Try.func23, Try.ntmps23
          go_wp2_with (first
            | (go_at_call 21
               refine (cF.out).mono ?_
               rintro e w3 ⟨rfl, hb3⟩
               have k3 := (hb3.cell (p := ⟨w.heap.size, 0, none⟩) (by have := HZ.out; simp; omega)).trans k0
               have HB23 := Lib.hid hb3
               have HB3 := Lib.hid (HB2.out.trans (hb3.mono HB2.out.size))
               clear hb3)
            | (go_at_call 42
               refine (cA.out _ HB3.out).mono ?_
               rintro e w4 ⟨hb4, A4, c4, D4, rfl, hO4, hD4⟩
               have hb24 := HB23.out.trans (hb4.mono HB23.out.size)
               have hR4 := (hb24.block _ (by have := HZ.out; omega)).trans HR.out
               have z0 := cell_of_heap hR4 0
               have zf := free_of_heap hR4 0
               simp only [List.getElem?_toArray, List.getElem?_cons_zero] at z0
               have HR4 := Lib.hid hR4
               have HB4 := Lib.hid (HB2.out.trans (hb24.mono HB2.out.size))
               clear hR4 hb4 hb24 hO4 hD4))
          refine fl_end3 rfl rfl HR4.out ?_
          exact AppPost.err (HB4.out.setCell (p := ⟨w1.heap.size, 0, none⟩) (by have := HZ.out; simp; omega) _) (HERR.out HT.out).1 (HERR.out HT.out).2
  · rw [if_neg t0] at hEA
    subst hEA
    have u1 : (EA != 0) = true := by simp [t0]
    have HT := Lib.hid t0
    clear t0
    go_enter Try.func23, Try.ntmps23
    go_wp2_with (
      go_at_call 21
      refine (cF.out).mono ?_
      rintro e w3 ⟨rfl, hb3⟩
      have hR3 := (hb3.block _ (by have := HZ.out; omega)).trans HR.out
      have z0 := cell_of_heap hR3 0
      have zf := free_of_heap hR3 0
      simp only [List.getElem?_toArray, List.getElem?_cons_zero] at z0
      have HR3 := Lib.hid hR3
      have HB3 := Lib.hid (HB2.out.trans (hb3.mono HB2.out.size))
      clear hR3 hb3)
    refine fl_end3 rfl rfl HR3.out ?_
    exact AppPost.err (HB3.out.setCell (p := ⟨w1.heap.size, 0, none⟩) (by have := HZ.out; simp; omega) _) (HERR.out HT.out).1 (HERR.out HT.out).2

/-- what Open hands back -/
def OpenPost (w : World) (E : Int) (R0 : List ByteArray) (e : Ending) (w' : World) : Prop := Below w.heap.size w w' ∧ ∃ (A : Option Addr) (c : Nat) (R : List ByteArray), e = .returned (.tuple #[.slice A R.length c, .int .i64 E]) ∧ TOwn w' w.heap.size (.slice A R.length c) R ∧ R = R0
theorem OpenPost.err {w w' : World} {E : Int} {R0 : List ByteArray} (h : Below w.heap.size w w') (hR : R0 = []) : OpenPost w E R0 (.returned (.tuple #[.slice none 0 0, .int .i64 E])) w' := by
  subst hR
  exact ⟨h, none, 0, [], rfl, TOwn.nil _ _, rfl⟩

set_option maxHeartbeats 4000000 in
set_option maxRecDepth 100000 in
theorem Open_any (f : Fl) (w : World) (h : f.ok w) : Calls Try.prog 24 #[f.v] w (OpenPost w (openErr f.bl) (openRecs f.bl)) := by
  obtain ⟨w1, hw1⟩ : ∃ w1, w1 = w.alloc (.cells #[.slice f.a f.bl.length f.c] 24) := ⟨_, rfl⟩
  obtain ⟨f0, hz1, hb1⟩ := box1 hw1
  have hw1' := hw1.symm
  have HB1 := Lib.hid hb1
  have HZ := Lib.hid hz1
  have H := Lib.hid h
  have cF := Lib.hid (Check_any f w1 (h.below hb1))
  obtain ⟨EF, hEF⟩ : ∃ E, E = flErr f.bl := ⟨_, rfl⟩
  rw [← hEF] at cF
  unfold openErr openRecs
  rw [← hEF]
  have HEF := Lib.hid hEF
  clear hw1 hb1 h hz1 hEF
  by_cases t0 : EF = 0
  · rw [if_pos t0, if_pos t0]
    have HF := Lib.hid (HEF.out.symm.trans t0)
    subst t0
    cases hj : jload (flat f.bl) with
    | none =>
      have cL := Lib.hid (fun W (hW : Below w.heap.size w W) => load_none f W (H.out.below hW) HF.out hj)
      clear hj
      go_enter Try.func24, Try.ntmps24
      go_wp2_with (first
        | (go_at_call 21
           refine (cF.out).mono ?_
           rintro e w2 ⟨rfl, hb2⟩
           have k2 := (hb2.cell (p := ⟨w.heap.size, 0, none⟩) (by have := HZ.out; simp; omega)).trans f0
           have HB2 := Lib.hid (HB1.out.trans (hb2.mono HB1.out.size))
           clear hb2)
        | (go_at_call 43
           refine (cL.out _ HB2.out).mono ?_
           rintro e w3 ⟨rfl, hb3⟩))
      go_ret2
      exact OpenPost.err (HB2.out.trans (hb3.mono HB2.out.size)) rfl
    | some p =>
      obtain ⟨k, r, e⟩ := p
      have cL := Lib.hid (fun W (hW : Below w.heap.size w W) => load_some f W (H.out.below hW) HF.out k r e hj)
      clear hj
      go_enter Try.func24, Try.ntmps24
      go_wp2_with (first
        | (go_at_call 21
           refine (cF.out).mono ?_
           rintro e w2 ⟨rfl, hb2⟩
           have k2 := (hb2.cell (p := ⟨w.heap.size, 0, none⟩) (by have := HZ.out; simp; omega)).trans f0
           have HB2 := Lib.hid (HB1.out.trans (hb2.mono HB1.out.size))
           clear hb2)
        | (go_at_call 43
           refine (cL.out _ HB2.out).mono ?_
           rintro e w3 ⟨hb3, B, hB, rfl, A, c, hJ, hO⟩
           have z2 := cell_of_heap hJ 2
           simp only [List.getElem?_toArray, List.getElem?_cons_zero, List.getElem?_cons_succ] at z2
           have HB3 := Lib.hid (HB2.out.trans (hb3.mono HB2.out.size))
           have HO := Lib.hid hO
           have HBB := Lib.hid hB
           clear hb3 hJ hO hB))
      go_ret2
      exact ⟨HB3.out, A, c, r, rfl, HO.out.more (by have := HB2.out.size; have := HBB.out; omega), rfl⟩
  · rw [if_neg t0, if_neg t0]
    have u1 : (EF != 0) = true := by simp [t0]
    clear t0
    go_enter Try.func24, Try.ntmps24
    go_wp2_with (go_at_call 21; refine (cF.out).mono ?_; rintro e w2 ⟨rfl, hb2⟩)
    go_ret2
    exact OpenPost.err (HB1.out.trans (hb2.mono HB1.out.size)) rfl

def fmtErr (b : Int) : Int := if b < 3 then 3 else newErr b

set_option maxHeartbeats 4000000 in
set_option maxRecDepth 100000 in
theorem Format_any (b : Int) (w : World) :
    Calls Try.prog 26 #[.int .i64 b] w fun e w' => Below w.heap.size w w' ∧ ∃ f' : Fl, e = .returned (.tuple #[f'.v, .int .i64 (fmtErr b)]) ∧ FlRes w' w.heap.size f' (resIf (fmtErr b) (List.replicate b.toNat blank)) := by
  obtain ⟨w1, hw1⟩ : ∃ w1, w1 = w.alloc (.cells #[.slice none 0 0] 24) := ⟨_, rfl⟩
  obtain ⟨z0, hR, hz1, hb1⟩ := box_new hw1
  have zf := free_of_heap hR 0
  have hw1' := hw1.symm
  have HB1 := Lib.hid hb1
  have HR := Lib.hid hR
  have HZ := Lib.hid hz1
  have cN := Lib.hid (fun W => New_any b W)
  obtain ⟨E, hE⟩ : ∃ E, E = fmtErr b := ⟨_, rfl⟩
  obtain ⟨EN, hEN⟩ : ∃ E, E = newErr b := ⟨_, rfl⟩
  rw [← hE]
  rw [← hEN] at cN
  unfold fmtErr at hE
  rw [← hEN] at hE
  clear hw1 hb1 hR hz1 hEN
  by_cases t : b < 3
  · rw [if_pos t] at hE
    subst hE
    go_enter Try.func26, Try.ntmps26
    go_wp2_with fail
    refine fl_end rfl rfl HR.out ?_
    exact ⟨HB1.out.setCell (p := ⟨w.heap.size, 0, none⟩) (Nat.le_refl _) _, noFl, rfl, noFl_own _ _, Nat.le_refl _, (resIf_ne (by decide)).symm⟩
  · rw [if_neg t] at hE
    subst hE
    go_enter Try.func26, Try.ntmps26
    go_wp2_with (
      go_at_call 13
      refine (cN.out _).mono ?_
      rintro e w2 ⟨hb2, f', rfl, hr2⟩
      have hR2 := (hb2.block _ (by have := HZ.out; omega)).trans HR.out
      have y0 := cell_of_heap hR2 0
      have yf := free_of_heap hR2 0
      simp only [List.getElem?_toArray, List.getElem?_cons_zero] at y0
      have HR2 := Lib.hid hR2
      have HB2 := Lib.hid (HB1.out.trans (hb2.mono HB1.out.size))
      have HF2 := Lib.hid hr2
      clear hR2 hb2 hr2)
    refine fl_end rfl rfl HR2.out ?_
    exact ⟨HB2.out.setCell (p := ⟨w.heap.size, 0, none⟩) (Nat.le_refl _) _, f', rfl, (HF2.out.own.set_other HR2.out (by decide) 0 _).more HB1.out.size, HF2.out.cap, HF2.out.is⟩

end Go.Proofs.Ytpmjgkngkaleeaa
