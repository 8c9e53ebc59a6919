import Derived.Test.YtpmjgkngkaleeaaFlDoneW
/- flash.Do (chapter K): what is wrong with it, or the deeds done. -/
namespace Go.Proofs.Ytpmjgkngkaleeaa
open Go.RowKit

/-- the flash that a call hands back beside what is wrong -/
def resIf (e : Int) (l : List ByteArray) : List ByteArray := if e = 0 then l else []
structure FlRes (w : World) (base : Nat) (f : Fl) (l : List ByteArray) : Prop where
  own : TOwn w base (.slice f.a f.bl.length f.c) f.bl
  cap : f.bl.length ≤ f.c
  is : f.bl = l
theorem resIf_zero {e : Int} {l : List ByteArray} (h : e = 0) : resIf e l = l := if_pos h
theorem resIf_ne {e : Int} {l : List ByteArray} (h : e ≠ 0) : resIf e l = [] := if_neg h
theorem ret_fl_err {a b : Int} (h : a = b) : Ending.returned (.tuple #[.agg #[.slice none 0 0], .int .i64 a]) = .returned (.tuple #[noFl.v, .int .i64 b]) := by rw [h]; rfl
theorem noFl_own (w : World) (b : Nat) : TOwn w b (.slice noFl.a noFl.bl.length noFl.c) noFl.bl := TOwn.nil w b

/-- the end of a function that hands back a flash, in a cell, and an errno -/
theorem fl_end {fn : Func} {p u : Tmp} (h : fn.results = #[.cell p 24, .tmp u]) {tmps : Array Value} {W : World} {R : Nat} {v old : Value} {Q : Ending → World → Prop}
    (hp : tmps.getD p undef = .pointer (some ⟨R, 0, none⟩)) (hR : W.heap[R]? = some (.cells #[old] 24 (0, 0)))
    (hQ : Q (.returned (.tuple #[.agg #[v], tmps.getD u undef])) (W.setCell ⟨R, 0, none⟩ v)) : bodyPost Try.prog fn Q .ret ⟨tmps, []⟩ (W.setCell ⟨R, 0, none⟩ v) := by
  have hR9 : (W.setCell ⟨R, 0, none⟩ v).heap[R]? = some (.cells #[v] 24 (0, 0)) := heap_setCell_same W R 0 _ _ v hR
  have hp' : tmps[p]?.getD undef = .pointer (some ⟨R, 0, none⟩) := by simpa using hp
  have hr : (results fn tmps).run Try.prog (W.setCell ⟨R, 0, none⟩ v) = .ok (.tuple #[.agg #[v], tmps.getD u undef]) (W.setCell ⟨R, 0, none⟩ v) := by
    simp [results, h, hp', asAddr, run_loadVar_row _ R 24 24 #[v] (0, 0) _ hR9 Try.underlying24 rfl Try.sizeFlash]
  exact bodyPost_ret hr rfl hQ

set_option maxHeartbeats 4000000 in
set_option maxRecDepth 100000 in
theorem Do_any (f : Fl) (A : Option Addr) (c : Nat) (l : List Ded) (w : World) (h : f.ok w) (h' : DedsOk w A l) :
    Calls Try.prog 10 #[f.v, .slice A l.length c] w fun e w' => Below w.heap.size w w' ∧ ∃ f' : Fl, e = .returned (.tuple #[f'.v, .int .i64 (dedsErr f.bl l)]) ∧ FlRes w' w.heap.size f' (resIf (dedsErr f.bl l) (doneL f.bl l)) := by
  obtain ⟨w1, hw1⟩ : ∃ w1, w1 = w.alloc (.cells #[.slice f.a f.bl.length f.c] 24) := ⟨_, rfl⟩
  obtain ⟨f0, hz1, hb1⟩ := box1 hw1
  obtain ⟨w2, hw2⟩ : ∃ w2, w2 = w1.alloc (.cells #[.slice none 0 0] 24) := ⟨_, rfl⟩
  obtain ⟨_, hR, hz2, hb2⟩ := box_new hw2
  have k0 := (hb2.cell (p := ⟨w.heap.size, 0, none⟩) (by simp; omega)).trans f0
  have HB2 := Lib.hid (hb1.trans (hb2.mono (by omega)))
  have hw1' := hw1.symm
  have hw2' := hw2.symm
  have HR := Lib.hid hR
  have HZ2 := Lib.hid hz2
  have HZ1 := Lib.hid hz1
  have HROW := Lib.hid h'.row
  have hl := h'.len
  unfold big at hl
  have cF := Lib.hid (Check_any f w2 (h.below HB2.out))
  have cX := Lib.hid (fun hf hd W hW => Done_any f A c l W (h.below hW) hf hd (h'.below hW))
  obtain ⟨E, hE⟩ : ∃ E, E = dedsErr f.bl l := ⟨_, rfl⟩
  rw [← hE]
  obtain ⟨e0, he0⟩ : ∃ e, e = flErr f.bl := ⟨_, rfl⟩
  rw [← he0] at cF
  by_cases t0 : e0 = 0
  · have HF := Lib.hid (he0.symm.trans t0)
    have h32 := (flErr_ok.1 (he0.symm.trans t0)).1.2
    have HE := Lib.hid (show E = firstErr f.bl.length l by rw [hE]; unfold dedsErr; rw [if_pos (he0.symm.trans t0)])
    have cD := Lib.hid (fun (d : Ded) W => deed_any f.bl.length f.a f.c d.kind d.at_ d.value W h32)
    subst t0
    clear hw1 hw2 hb1 hb2 hR h h' hE he0 hz1 f0 h32
    go_enter Try.func10, Try.ntmps10
    go_wp2_with (go_at_call 21; refine (cF.out).mono ?_; rintro e w3 ⟨rfl, hb3⟩)
    have HB3 := Lib.hid hb3
    clear hb3
    go_loopw [6, 7] (fun e i wr => ∃ (j : Nat) (er : Int), j ≤ l.length ∧ i = .int .i64 j ∧ e = .int .i64 er ∧ (if er = 0 then firstErr f.bl.length (l.drop j) else er) = E ∧ Below w2.heap.size w2 wr) (fun _ i _ => l.length - (intOf i).toNat)
    case atStart => exact ⟨0, 0, by omega, rfl, rfl, by rw [if_pos rfl, List.drop_zero]; exact HE.out.symm, HB3.out⟩
    case round =>
      obtain ⟨j, er, hj, rfl, rfl, hN, hb⟩ := hrel
      have HN := Lib.hid hN
      have HBR := Lib.hid hb
      have hz := HZ2.out
      have hwz := hb.size
      have r0 := (hb.cell (p := ⟨w.heap.size, 0, none⟩) (by have := HZ1.out; simp; omega)).trans k0
      have HX := Lib.hid (HB2.out.trans (hb.mono HB2.out.size))
      have hRr : wr.heap[w1.heap.size]? = some (.cells #[.slice none 0 0] 24 (0, 0)) := (hb.block _ (by have := HZ2.out; omega)).trans HR.out
      have v0 := cell_of_heap hRr 0
      have vf := free_of_heap hRr 0
      simp only [List.getElem?_toArray, List.getElem?_cons_zero] at v0
      have HRR := Lib.hid hRr
      clear hN hb hz hRr
      by_cases hlt : j < l.length
      · have hlt' : (j : Int) < l.length := by omega
        by_cases u : er = 0
        · subst u
          obtain ⟨ad, rfl, hab, h0, h1, h2⟩ := ded_at HROW.out HX.out j hlt
          have hN2 := HN.out
          rw [if_pos rfl, first_step hlt] at hN2
          have cJ := Lib.hid (fun W => cD.out (l[j]'hlt) W)
          change Hid (∀ W, Calls _ _ _ W fun e w' => e = .returned (.int .i64 (dedErr f.bl.length (l[j]'hlt))) ∧ _) at cJ
          obtain ⟨de, hde⟩ : ∃ de, de = dedErr f.bl.length (l[j]'hlt) := ⟨_, rfl⟩
          rw [← hde] at hN2
          rw [← hde] at cJ
          have HN2 := Lib.hid hN2
          clear hN2 hde
          have hbm : (ad.add (j * 3)).block < wr.heap.size := by rw [block_of_add]; have := HX.out.size; omega
          have hbw : w.heap.size < wr.heap.size := by have := HZ1.out; have := HZ2.out; omega
          clear v0 vf
          have HC0 := Lib.hid (show Below wr.heap.size wr wr ∧ wr.cell? ⟨w.heap.size, 0, none⟩ = some (.slice f.a f.bl.length f.c) ∧ wr.cell? (ad.add (j * 3)) = some (.int .i64 (l[j]'hlt).kind) ∧ wr.cell? ⟨(ad.add (j * 3)).block, (ad.add (j * 3)).off + 1, none⟩ = some (.int .i64 (l[j]'hlt).at_) ∧ wr.cell? ⟨(ad.add (j * 3)).block, (ad.add (j * 3)).off + 2, none⟩ = some (.int .i64 (l[j]'hlt).value) from ⟨Below.refl _ _, by assumption, by assumption, by assumption, by assumption⟩)
          have HCD := Lib.hid (show ∀ W' : World, (Below wr.heap.size wr W' ∧ W'.cell? ⟨w.heap.size, 0, none⟩ = some (.slice f.a f.bl.length f.c) ∧ W'.cell? (ad.add (j * 3)) = some (.int .i64 (l[j]'hlt).kind) ∧ W'.cell? ⟨(ad.add (j * 3)).block, (ad.add (j * 3)).off + 1, none⟩ = some (.int .i64 (l[j]'hlt).at_) ∧ W'.cell? ⟨(ad.add (j * 3)).block, (ad.add (j * 3)).off + 2, none⟩ = some (.int .i64 (l[j]'hlt).value)) → (Below wr.heap.size wr W'.drew ∧ W'.drew.cell? ⟨w.heap.size, 0, none⟩ = some (.slice f.a f.bl.length f.c) ∧ W'.drew.cell? (ad.add (j * 3)) = some (.int .i64 (l[j]'hlt).kind) ∧ W'.drew.cell? ⟨(ad.add (j * 3)).block, (ad.add (j * 3)).off + 1, none⟩ = some (.int .i64 (l[j]'hlt).at_) ∧ W'.drew.cell? ⟨(ad.add (j * 3)).block, (ad.add (j * 3)).off + 2, none⟩ = some (.int .i64 (l[j]'hlt).value)) from fun W' ⟨b, a0, a1, a2, a3⟩ => ⟨b.drew, a0, a1, a2, a3⟩)
          have HCS := Lib.hid (show ∀ W' W2 : World, (Below wr.heap.size wr W' ∧ W'.cell? ⟨w.heap.size, 0, none⟩ = some (.slice f.a f.bl.length f.c) ∧ W'.cell? (ad.add (j * 3)) = some (.int .i64 (l[j]'hlt).kind) ∧ W'.cell? ⟨(ad.add (j * 3)).block, (ad.add (j * 3)).off + 1, none⟩ = some (.int .i64 (l[j]'hlt).at_) ∧ W'.cell? ⟨(ad.add (j * 3)).block, (ad.add (j * 3)).off + 2, none⟩ = some (.int .i64 (l[j]'hlt).value)) → Below W'.heap.size W' W2 → (Below wr.heap.size wr W2 ∧ W2.cell? ⟨w.heap.size, 0, none⟩ = some (.slice f.a f.bl.length f.c) ∧ W2.cell? (ad.add (j * 3)) = some (.int .i64 (l[j]'hlt).kind) ∧ W2.cell? ⟨(ad.add (j * 3)).block, (ad.add (j * 3)).off + 1, none⟩ = some (.int .i64 (l[j]'hlt).at_) ∧ W2.cell? ⟨(ad.add (j * 3)).block, (ad.add (j * 3)).off + 2, none⟩ = some (.int .i64 (l[j]'hlt).value)) from fun W' W2 ⟨b, a0, a1, a2, a3⟩ hb => have s := b.size; ⟨b.trans (hb.mono s), (hb.cell (by first | omega | (simp; omega) | (simp only [block_of_add]; omega))).trans a0, (hb.cell (by first | omega | (simp; omega) | (simp only [block_of_add]; omega))).trans a1, (hb.cell (by first | omega | (simp; omega) | (simp only [block_of_add]; omega))).trans a2, (hb.cell (by first | omega | (simp; omega) | (simp only [block_of_add]; omega))).trans a3⟩)
          have HCA := Lib.hid (show ∀ (W' : World) (o : Obj), (Below wr.heap.size wr W' ∧ W'.cell? ⟨w.heap.size, 0, none⟩ = some (.slice f.a f.bl.length f.c) ∧ W'.cell? (ad.add (j * 3)) = some (.int .i64 (l[j]'hlt).kind) ∧ W'.cell? ⟨(ad.add (j * 3)).block, (ad.add (j * 3)).off + 1, none⟩ = some (.int .i64 (l[j]'hlt).at_) ∧ W'.cell? ⟨(ad.add (j * 3)).block, (ad.add (j * 3)).off + 2, none⟩ = some (.int .i64 (l[j]'hlt).value)) → (Below wr.heap.size wr (W'.alloc o) ∧ (W'.alloc o).cell? ⟨w.heap.size, 0, none⟩ = some (.slice f.a f.bl.length f.c) ∧ (W'.alloc o).cell? (ad.add (j * 3)) = some (.int .i64 (l[j]'hlt).kind) ∧ (W'.alloc o).cell? ⟨(ad.add (j * 3)).block, (ad.add (j * 3)).off + 1, none⟩ = some (.int .i64 (l[j]'hlt).at_) ∧ (W'.alloc o).cell? ⟨(ad.add (j * 3)).block, (ad.add (j * 3)).off + 2, none⟩ = some (.int .i64 (l[j]'hlt).value)) from fun W' o hc => HCS.out W' (W'.alloc o) hc ((Below.refl _ _).alloc (Nat.le_refl _) o))
          have HCL := Lib.hid (show ∀ W' : World, (Below wr.heap.size wr W' ∧ W'.cell? ⟨w.heap.size, 0, none⟩ = some (.slice f.a f.bl.length f.c) ∧ W'.cell? (ad.add (j * 3)) = some (.int .i64 (l[j]'hlt).kind) ∧ W'.cell? ⟨(ad.add (j * 3)).block, (ad.add (j * 3)).off + 1, none⟩ = some (.int .i64 (l[j]'hlt).at_) ∧ W'.cell? ⟨(ad.add (j * 3)).block, (ad.add (j * 3)).off + 2, none⟩ = some (.int .i64 (l[j]'hlt).value)) → Below wr.heap.size wr W' from fun W' hc => hc.1)
          go_wp2_with fail
          go_region_held3 (fun W' => Below wr.heap.size wr W' ∧ W'.cell? ⟨w.heap.size, 0, none⟩ = some (.slice f.a f.bl.length f.c) ∧ W'.cell? (ad.add (j * 3)) = some (.int .i64 (l[j]'hlt).kind) ∧ W'.cell? ⟨(ad.add (j * 3)).block, (ad.add (j * 3)).off + 1, none⟩ = some (.int .i64 (l[j]'hlt).at_) ∧ W'.cell? ⟨(ad.add (j * 3)).block, (ad.add (j * 3)).off + 2, none⟩ = some (.int .i64 (l[j]'hlt).value)) (first | exact HC0.out | exact HCD.out _ HC0.out | exact HCS.out _ _ (by assumption) (by assumption) | exact HCS.out _ _ HC0.out (by assumption) | exact HCS.out _ _ (HCD.out _ HC0.out) (by assumption) | exact HCS.out _ _ (HCD.out _ (by assumption)) (by assumption) | exact HCD.out _ (by assumption) | exact HCA.out _ _ (by assumption) | exact HCA.out _ _ HC0.out | exact HCA.out _ _ (HCD.out _ HC0.out) | exact HCD.out _ (HCA.out _ _ (by assumption)) | assumption) (first | (go_at_call 29; with_reducible refine (cJ.out _).mono ?_; rintro e w2 ⟨rfl, hb2⟩))
          have B6 := Lib.hid (HCL.out _ (by assumption))
          clear HC0 HCD HCS HCA HCL cJ
          go_wp2_with fail
          go_roundw
          case rel => exact ⟨j + 1, de, by omega, by go_num, rfl, HN2.out, HBR.out.trans (B6.out.mono hwz)⟩
          case measure => (simp [intOf]; try omega)
        · have u' : (er == 0) = false := by simp [u]
          have u2 : (er != 0) = true := by simp [u]
          have e1 := Lib.hid (show er = E by rw [← HN.out, if_neg u])
          have HU := Lib.hid u
          clear u
          go_wp2_with fail
          refine fl_end rfl rfl HRR.out ?_
          exact ⟨HX.out.setCell (p := ⟨w1.heap.size, 0, none⟩) (by have := HZ1.out; simp; omega) _, noFl, ret_fl_err e1.out, noFl_own _ _, Nat.le_refl _, (resIf_ne (by rw [← e1.out]; exact HU.out)).symm⟩
      · have HJ := Lib.hid (show l.drop j = [] from List.drop_eq_nil_of_le (by omega))
        by_cases u : er = 0
        · subst u
          have e1 := Lib.hid (show (0 : Int) = E by rw [← HN.out, if_pos rfl, HJ.out]; rfl)
          have HDED := Lib.hid (show ∀ d ∈ l, dedErr f.bl.length d = 0 from firstErr_ok.1 (by rw [← HE.out, ← e1.out]))
          have cY := Lib.hid (cX.out HF.out HDED.out wr HX.out)
          go_wp2_with (
            go_at_call 30
            refine (cY.out).mono ?_
            rintro e w6 ⟨hb6, A6, c6, rfl, hc6, ho6⟩
            have hR6 := (hb6.block _ (Array.getElem?_eq_some_iff.1 HRR.out).1).trans HRR.out
            have z0 := cell_of_heap hR6 0
            have zf := free_of_heap hR6 0
            simp only [List.getElem?_toArray, List.getElem?_cons_zero] at z0
            have HR6 := Lib.hid hR6
            have HO6 := Lib.hid ho6
            have HB6 := Lib.hid hb6
            clear hR6 ho6 hb6)
          refine fl_end rfl rfl HR6.out ?_
          have HS := Lib.hid (resIf_zero (l := doneL f.bl l) e1.out.symm)
          have hnd := (doneL_ok HF.out HDED.out).2
          refine ⟨(HX.out.trans (HB6.out.mono HX.out.size)).setCell (p := ⟨w1.heap.size, 0, none⟩) (by have := HZ1.out; simp; omega) _, ⟨doneL f.bl l, A6, c6⟩, ?_, ?_, ?_, HS.out.symm⟩
          · rw [← e1.out]; show _ = Ending.returned (.tuple #[.agg #[.slice A6 (doneL f.bl l).length c6], _]); rw [hnd]; rfl
          · show TOwn _ _ (.slice A6 (doneL f.bl l).length c6) _
            rw [hnd]
            exact (HO6.out.set_other HR6.out (by decide) 0 _).more HX.out.size
          · show (doneL f.bl l).length ≤ c6
            rw [hnd]; exact hc6
        · have u' : (er == 0) = false := by simp [u]
          have u2 : (er != 0) = true := by simp [u]
          have e1 := Lib.hid (show er = E by rw [← HN.out, if_neg u])
          have HU := Lib.hid u
          clear u
          go_wp2_with fail
          refine fl_end rfl rfl HRR.out ?_
          exact ⟨HX.out.setCell (p := ⟨w1.heap.size, 0, none⟩) (by have := HZ1.out; simp; omega) _, noFl, ret_fl_err e1.out, noFl_own _ _, Nat.le_refl _, (resIf_ne (by rw [← e1.out]; exact HU.out)).symm⟩
  · have t0' : (e0 == 0) = false := by simp [t0]
    have t2 : (e0 != 0) = true := by simp [t0]
    have HE := Lib.hid (show e0 = E by rw [hE]; unfold dedsErr; rw [if_neg (by rw [← he0]; exact t0)]; exact he0)
    have HU := Lib.hid t0
    clear hw1 hw2 hb1 hb2 hR h h' hE he0 hz1 f0 t0
    go_enter Try.func10, Try.ntmps10
    go_wp2_with (go_at_call 21; refine (cF.out).mono ?_; rintro e w3 ⟨rfl, hb3⟩)
    have HB3 := Lib.hid hb3
    have hR3 : w3.heap[w1.heap.size]? = some (.cells #[.slice none 0 0] 24 (0, 0)) := (hb3.block _ (by have := HZ2.out; omega)).trans HR.out
    have v0 := cell_of_heap hR3 0
    have vf := free_of_heap hR3 0
    simp only [List.getElem?_toArray, List.getElem?_cons_zero] at v0
    have HR3 := Lib.hid hR3
    clear hb3 hR3
    go_loopw [6, 7] (fun e i wr => e = .int .i64 e0 ∧ i = .int .i64 0 ∧ wr = w3) (fun _ _ _ => 0)
    case atStart => exact ⟨rfl, rfl, rfl⟩
    case round =>
      obtain ⟨rfl, rfl, rfl⟩ := hrel
      go_wp2_with fail
      all_goals refine fl_end rfl rfl HR3.out ?_
      all_goals exact ⟨(HB2.out.trans (HB3.out.mono HB2.out.size)).setCell (p := ⟨w1.heap.size, 0, none⟩) (by have := HZ1.out; simp; omega) _, noFl, ret_fl_err HE.out, noFl_own _ _, Nat.le_refl _, (resIf_ne (by rw [← HE.out]; exact HU.out)).symm⟩

end Go.Proofs.Ytpmjgkngkaleeaa
