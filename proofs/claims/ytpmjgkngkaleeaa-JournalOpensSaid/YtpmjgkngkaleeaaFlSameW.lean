import Derived.Test.YtpmjgkngkaleeaaFlChkW
/- Are two flashes the same; all deeds of a list checked (chapter K): the document's SameTexts, SameFlash, CheckDeeds. -/
namespace Go.Proofs.Ytpmjgkngkaleeaa
open Go.RowKit

set_option maxHeartbeats 4000000 in
set_option maxRecDepth 100000 in
theorem SameTexts_any (A B : Option Addr) (c d : Nat) (l r : List ByteArray) (w : World) (h : Row strCells 1 w A l) (h' : Row strCells 1 w B r) (hl : l.length ≤ big) (hr : r.length ≤ big) :
    Calls Try.prog 27 #[.slice A l.length c, .slice B r.length d] w fun e w' => e = .returned (.bool (decide (l = r))) ∧ Below w.heap.size w w' := by
  unfold big at hl hr
  have HL := Lib.hid h
  have HR := Lib.hid h'
  clear h h'
  obtain ⟨R, hR⟩ : ∃ R, R = decide (l = r) := ⟨_, rfl⟩
  rw [← hR]
  have HD := Lib.hid hR
  clear hR
  by_cases hlen : l.length = r.length
  · have hlen' : ((l.length : Int) != r.length) = false := by simp; omega
    have HLN := Lib.hid hlen
    clear hlen
    go_enter Try.func27, Try.ntmps27
    go_wp2_with fail
    go_loopw [5] (fun i wr => ∃ j : Nat, j ≤ l.length ∧ i = .int .i64 j ∧ (∀ k (hk : k < l.length) (hk' : k < r.length), k < j → l[k] = r[k]) ∧ Below w.heap.size w wr) (fun i _ => l.length - (intOf i).toNat)
    case atStart => exact ⟨0, by omega, rfl, by omega, Below.refl _ _⟩
    case round =>
      obtain ⟨j, hj, rfl, hN, hb⟩ := hrel
      have HN := Lib.hid hN
      have HB := Lib.hid hb
      clear hN
      have hln := HLN.out
      by_cases hlt : j < l.length
      · have hltr : j < r.length := by omega
        have hlt' : (j : Int) < l.length := by omega
        have hlt'' : (j : Int) < r.length := by omega
        obtain ⟨ad, rfl, hab, h0⟩ := text_at HL.out hb j hlt
        obtain ⟨bd, rfl, hbb, h1⟩ := text_at HR.out hb j hltr
        clear hb hln
        by_cases he : l[j] = r[j]
        · have he' := str_eq he
          have HE := Lib.hid he
          clear he
          go_wp2_with fail
          go_quiet (fail)
          go_wp2_with fail
          go_roundw
          case rel => exact ⟨j + 1, by omega, by go_num, fun k hk hk' hkj => by rcases Nat.lt_succ_iff_lt_or_eq.1 hkj with h | rfl; exact HN.out k hk hk' h; exact HE.out, below_drewN HB.out _⟩
          case measure => (simp [intOf]; try omega)
        · have he' := str_ne he
          have hne := Lib.hid (show R = false by rw [HD.out]; simp only [decide_eq_false_iff_not]; rintro rfl; exact he rfl)
          clear he
          go_wp2_with fail
          go_quiet (fail)
          go_wp2_with fail
          go_ret
          exact ⟨ret_bool hne.out.symm, below_drewN HB.out _⟩
      · have heq := Lib.hid (show R = true by rw [HD.out]; simp only [decide_eq_true_eq]; exact List.ext_getElem hln (fun k hk hk' => HN.out k hk hk' (by omega)))
        clear hb hln
        go_wp2_with fail
        go_ret
        exact ⟨ret_bool heq.out.symm, HB.out⟩
  · have hlen' : ((l.length : Int) != r.length) = true := by simp; omega
    have hne := Lib.hid (show R = false by rw [HD.out]; simp only [decide_eq_false_iff_not]; rintro rfl; exact hlen rfl)
    clear hlen
    go_enter Try.func27, Try.ntmps27
    go_wp2_with fail
    go_ret
    exact ⟨ret_bool hne.out.symm, Below.refl _ _⟩

set_option maxHeartbeats 4000000 in
set_option maxRecDepth 100000 in
theorem SameFlash_any (f g : Fl) (w : World) (h : f.ok w) (h' : g.ok w) :
    Calls Try.prog 11 #[f.v, g.v] w fun e w' => e = .returned (.bool (decide (f.bl = g.bl))) ∧ Below w.heap.size w w' := by
  obtain ⟨w1, hw1⟩ : ∃ w1, w1 = w.alloc (.cells #[.slice f.a f.bl.length f.c] 24) := ⟨_, rfl⟩
  obtain ⟨f0, hz1, hb1⟩ := box1 hw1
  obtain ⟨w2, hw2⟩ : ∃ w2, w2 = w1.alloc (.cells #[.slice g.a g.bl.length g.c] 24) := ⟨_, rfl⟩
  obtain ⟨g0, hz2, hb2⟩ := box1 hw2
  rw [hz1] at g0 hz2 hb2
  have k0 := (hb2.cell (p := ⟨w.heap.size, 0, none⟩) (by simp)).trans f0
  have HB := Lib.hid (hb1.trans (hb2.mono (by omega)))
  have cS := Lib.hid (SameTexts_any f.a g.a f.c g.c f.bl g.bl w2 (h.below HB.out).row.row (h'.below HB.out).row.row h.row.len h'.row.len)
  have hw1' := hw1.symm
  have hw2' := hw2.symm
  obtain ⟨b, hb⟩ : ∃ b, b = decide (f.bl = g.bl) := ⟨_, rfl⟩
  rw [← hb] at cS ⊢
  clear hw1 hw2 hb1 hb2 f0 hz2 h h' hb
  go_enter Try.func11, Try.ntmps11
  go_wp2_with (go_at_call 27; refine (cS.out).mono ?_; rintro e w3 ⟨rfl, hb3⟩)
  go_ret
  exact ⟨rfl, HB.out.trans (hb3.mono HB.out.size)⟩

theorem firstErr_cons (n : Nat) (d : Ded) (l : List Ded) : firstErr n (d :: l) = if dedErr n d = 0 then firstErr n l else dedErr n d := rfl
theorem first_step {n : Nat} {l : List Ded} {j : Nat} (h : j < l.length) : firstErr n (l.drop j) = if dedErr n l[j] = 0 then firstErr n (l.drop (j + 1)) else dedErr n l[j] := by
  rw [List.drop_eq_getElem_cons h, firstErr_cons]

set_option maxHeartbeats 4000000 in
set_option maxRecDepth 100000 in
theorem CheckDeeds_any (f : Fl) (A : Option Addr) (c : Nat) (l : List Ded) (w : World) (h : f.ok w) (h' : DedsOk w A l) :
    Calls Try.prog 16 #[f.v, .slice A l.length c] w fun e w' => e = .returned (.int .i64 (dedsErr f.bl l)) ∧ Below w.heap.size w w' := by
  obtain ⟨w1, hw1⟩ : ∃ w1, w1 = w.alloc (.cells #[.slice f.a f.bl.length f.c] 24) := ⟨_, rfl⟩
  obtain ⟨f0, hz1, hb1⟩ := box1 hw1
  have hw1' := hw1.symm
  have HB := Lib.hid hb1
  have HZ := Lib.hid hz1
  have HROW := Lib.hid h'.row
  have hl := h'.len
  unfold big at hl
  have cF := Lib.hid (CheckFlash_any f w1 (h.below hb1))
  obtain ⟨E, hE⟩ : ∃ E, E = dedsErr f.bl l := ⟨_, rfl⟩
  rw [← hE]
  obtain ⟨e0, he0⟩ : ∃ e, e = flErr f.bl := ⟨_, rfl⟩
  rw [← he0] at cF
  by_cases t0 : e0 = 0
  · have h32 := (flErr_ok.1 (he0.symm.trans t0)).1.2
    have HE := Lib.hid (show E = firstErr f.bl.length l by rw [hE]; unfold dedsErr; rw [if_pos (he0.symm.trans t0)])
    have cD := Lib.hid (fun (d : Ded) W => CheckDeed_any f.bl.length f.a f.c d.kind d.at_ d.value W h32)
    subst t0
    clear hw1 hb1 h h' hE he0 hz1
    go_enter Try.func16, Try.ntmps16
    go_wp2_with (go_at_call 15; refine (cF.out).mono ?_; rintro e w2 ⟨rfl, hb2⟩)
    have HB2 := Lib.hid hb2
    clear hb2
    go_loopw [5, 6] (fun e i wr => ∃ (j : Nat) (er : Int), j ≤ l.length ∧ i = .int .i64 j ∧ e = .int .i64 er ∧ (if er = 0 then firstErr f.bl.length (l.drop j) else er) = E ∧ Below w1.heap.size w1 wr) (fun _ i _ => l.length - (intOf i).toNat)
    case atStart => exact ⟨0, 0, by omega, rfl, rfl, by rw [if_pos rfl, List.drop_zero]; exact HE.out.symm, HB2.out⟩
    case round =>
      obtain ⟨j, er, hj, rfl, rfl, hN, hb⟩ := hrel
      have HN := Lib.hid hN
      have HBR := Lib.hid hb
      have hz := HZ.out
      have hwz := hb.size
      have r0 := (hb.cell (p := ⟨w.heap.size, 0, none⟩) (by simp; omega)).trans f0
      have HX := Lib.hid (HB.out.trans (hb.mono HB.out.size))
      clear hN hb hz
      by_cases hlt : j < l.length
      · have hlt' : (j : Int) < l.length := by omega
        by_cases u : er = 0
        · subst u
          obtain ⟨ad, rfl, hab, h0, h1, h2⟩ := ded_at HROW.out HX.out j hlt
          have hN2 := HN.out
          rw [if_pos rfl, first_step hlt] at hN2
          have cJ := Lib.hid (fun W => cD.out (l[j]'hlt) W)
          change Hid (∀ W, Calls _ _ _ W fun e w' => e = .returned (.int .i64 (dedErr f.bl.length (l[j]'hlt))) ∧ _) at cJ
          obtain ⟨de, hde⟩ : ∃ de, de = dedErr f.bl.length (l[j]'hlt) := ⟨_, rfl⟩
          rw [← hde] at hN2
          rw [← hde] at cJ
          have HN2 := Lib.hid hN2
          clear hN2 hde
          have hbm : (ad.add (j * 3)).block < wr.heap.size := by rw [block_of_add]; have := HX.out.size; omega
          have hbw : w.heap.size < wr.heap.size := by have := HZ.out; omega
          have HC0 := Lib.hid (show Below wr.heap.size wr wr ∧ wr.cell? ⟨w.heap.size, 0, none⟩ = some (.slice f.a f.bl.length f.c) ∧ wr.cell? (ad.add (j * 3)) = some (.int .i64 (l[j]'hlt).kind) ∧ wr.cell? ⟨(ad.add (j * 3)).block, (ad.add (j * 3)).off + 1, none⟩ = some (.int .i64 (l[j]'hlt).at_) ∧ wr.cell? ⟨(ad.add (j * 3)).block, (ad.add (j * 3)).off + 2, none⟩ = some (.int .i64 (l[j]'hlt).value) from ⟨Below.refl _ _, by assumption, by assumption, by assumption, by assumption⟩)
          have HCD := Lib.hid (show ∀ W' : World, (Below wr.heap.size wr W' ∧ W'.cell? ⟨w.heap.size, 0, none⟩ = some (.slice f.a f.bl.length f.c) ∧ W'.cell? (ad.add (j * 3)) = some (.int .i64 (l[j]'hlt).kind) ∧ W'.cell? ⟨(ad.add (j * 3)).block, (ad.add (j * 3)).off + 1, none⟩ = some (.int .i64 (l[j]'hlt).at_) ∧ W'.cell? ⟨(ad.add (j * 3)).block, (ad.add (j * 3)).off + 2, none⟩ = some (.int .i64 (l[j]'hlt).value)) → (Below wr.heap.size wr W'.drew ∧ W'.drew.cell? ⟨w.heap.size, 0, none⟩ = some (.slice f.a f.bl.length f.c) ∧ W'.drew.cell? (ad.add (j * 3)) = some (.int .i64 (l[j]'hlt).kind) ∧ W'.drew.cell? ⟨(ad.add (j * 3)).block, (ad.add (j * 3)).off + 1, none⟩ = some (.int .i64 (l[j]'hlt).at_) ∧ W'.drew.cell? ⟨(ad.add (j * 3)).block, (ad.add (j * 3)).off + 2, none⟩ = some (.int .i64 (l[j]'hlt).value)) from fun W' ⟨b, a0, a1, a2, a3⟩ => ⟨b.drew, a0, a1, a2, a3⟩)
          have HCS := Lib.hid (show ∀ W' W2 : World, (Below wr.heap.size wr W' ∧ W'.cell? ⟨w.heap.size, 0, none⟩ = some (.slice f.a f.bl.length f.c) ∧ W'.cell? (ad.add (j * 3)) = some (.int .i64 (l[j]'hlt).kind) ∧ W'.cell? ⟨(ad.add (j * 3)).block, (ad.add (j * 3)).off + 1, none⟩ = some (.int .i64 (l[j]'hlt).at_) ∧ W'.cell? ⟨(ad.add (j * 3)).block, (ad.add (j * 3)).off + 2, none⟩ = some (.int .i64 (l[j]'hlt).value)) → Below W'.heap.size W' W2 → (Below wr.heap.size wr W2 ∧ W2.cell? ⟨w.heap.size, 0, none⟩ = some (.slice f.a f.bl.length f.c) ∧ W2.cell? (ad.add (j * 3)) = some (.int .i64 (l[j]'hlt).kind) ∧ W2.cell? ⟨(ad.add (j * 3)).block, (ad.add (j * 3)).off + 1, none⟩ = some (.int .i64 (l[j]'hlt).at_) ∧ W2.cell? ⟨(ad.add (j * 3)).block, (ad.add (j * 3)).off + 2, none⟩ = some (.int .i64 (l[j]'hlt).value)) from fun W' W2 ⟨b, a0, a1, a2, a3⟩ hb => have s := b.size; ⟨b.trans (hb.mono s), (hb.cell (by first | omega | (simp; omega) | (simp only [block_of_add]; omega))).trans a0, (hb.cell (by first | omega | (simp; omega) | (simp only [block_of_add]; omega))).trans a1, (hb.cell (by first | omega | (simp; omega) | (simp only [block_of_add]; omega))).trans a2, (hb.cell (by first | omega | (simp; omega) | (simp only [block_of_add]; omega))).trans a3⟩)
          have HCA := Lib.hid (show ∀ (W' : World) (o : Obj), (Below wr.heap.size wr W' ∧ W'.cell? ⟨w.heap.size, 0, none⟩ = some (.slice f.a f.bl.length f.c) ∧ W'.cell? (ad.add (j * 3)) = some (.int .i64 (l[j]'hlt).kind) ∧ W'.cell? ⟨(ad.add (j * 3)).block, (ad.add (j * 3)).off + 1, none⟩ = some (.int .i64 (l[j]'hlt).at_) ∧ W'.cell? ⟨(ad.add (j * 3)).block, (ad.add (j * 3)).off + 2, none⟩ = some (.int .i64 (l[j]'hlt).value)) → (Below wr.heap.size wr (W'.alloc o) ∧ (W'.alloc o).cell? ⟨w.heap.size, 0, none⟩ = some (.slice f.a f.bl.length f.c) ∧ (W'.alloc o).cell? (ad.add (j * 3)) = some (.int .i64 (l[j]'hlt).kind) ∧ (W'.alloc o).cell? ⟨(ad.add (j * 3)).block, (ad.add (j * 3)).off + 1, none⟩ = some (.int .i64 (l[j]'hlt).at_) ∧ (W'.alloc o).cell? ⟨(ad.add (j * 3)).block, (ad.add (j * 3)).off + 2, none⟩ = some (.int .i64 (l[j]'hlt).value)) from fun W' o hc => HCS.out W' (W'.alloc o) hc ((Below.refl _ _).alloc (Nat.le_refl _) o))
          have HCL := Lib.hid (show ∀ W' : World, (Below wr.heap.size wr W' ∧ W'.cell? ⟨w.heap.size, 0, none⟩ = some (.slice f.a f.bl.length f.c) ∧ W'.cell? (ad.add (j * 3)) = some (.int .i64 (l[j]'hlt).kind) ∧ W'.cell? ⟨(ad.add (j * 3)).block, (ad.add (j * 3)).off + 1, none⟩ = some (.int .i64 (l[j]'hlt).at_) ∧ W'.cell? ⟨(ad.add (j * 3)).block, (ad.add (j * 3)).off + 2, none⟩ = some (.int .i64 (l[j]'hlt).value)) → Below wr.heap.size wr W' from fun W' hc => hc.1)
          go_wp2_with fail
          go_region_held3 (fun W' => Below wr.heap.size wr W' ∧ W'.cell? ⟨w.heap.size, 0, none⟩ = some (.slice f.a f.bl.length f.c) ∧ W'.cell? (ad.add (j * 3)) = some (.int .i64 (l[j]'hlt).kind) ∧ W'.cell? ⟨(ad.add (j * 3)).block, (ad.add (j * 3)).off + 1, none⟩ = some (.int .i64 (l[j]'hlt).at_) ∧ W'.cell? ⟨(ad.add (j * 3)).block, (ad.add (j * 3)).off + 2, none⟩ = some (.int .i64 (l[j]'hlt).value)) (first | exact HC0.out | exact HCD.out _ HC0.out | exact HCS.out _ _ (by assumption) (by assumption) | exact HCS.out _ _ HC0.out (by assumption) | exact HCS.out _ _ (HCD.out _ HC0.out) (by assumption) | exact HCS.out _ _ (HCD.out _ (by assumption)) (by assumption) | exact HCD.out _ (by assumption) | exact HCA.out _ _ (by assumption) | exact HCA.out _ _ HC0.out | exact HCA.out _ _ (HCD.out _ HC0.out) | exact HCD.out _ (HCA.out _ _ (by assumption)) | assumption) (first | (go_at_call 37; with_reducible refine (cJ.out _).mono ?_; rintro e w2 ⟨rfl, hb2⟩))
          have B6 := Lib.hid (HCL.out _ (by assumption))
          clear HC0 HCD HCS HCA HCL cJ
          go_wp2_with fail
          go_roundw
          case rel => exact ⟨j + 1, de, by omega, by go_num, rfl, HN2.out, HBR.out.trans (B6.out.mono hwz)⟩
          case measure => (simp [intOf]; try omega)
        · have u' : (er == 0) = false := by simp [u]
          have e1 := Lib.hid (show er = E by rw [← HN.out, if_neg u])
          clear u
          go_wp2_with fail
          go_ret
          exact ⟨ret_int e1.out, HX.out⟩
      · have e1 := Lib.hid (show er = E by
          have h := HN.out
          rw [show l.drop j = [] from List.drop_eq_nil_of_le (by omega)] at h
          by_cases u : er = 0
          · rw [if_pos u] at h; rw [u]; exact h
          · rw [if_neg u] at h; exact h)
        go_wp2_with fail
        go_ret
        exact ⟨ret_int e1.out, HX.out⟩
  · have t0' : (e0 == 0) = false := by simp [t0]
    have HE := Lib.hid (show e0 = E by rw [hE]; unfold dedsErr; rw [if_neg (by rw [← he0]; exact t0)]; exact he0)
    clear hw1 hb1 h h' hE he0 hz1 t0
    go_enter Try.func16, Try.ntmps16
    go_wp2_with (go_at_call 15; refine (cF.out).mono ?_; rintro e w2 ⟨rfl, hb2⟩)
    have HB2 := Lib.hid hb2
    clear hb2
    go_loopw [5, 6] (fun e i wr => e = .int .i64 e0 ∧ i = .int .i64 0 ∧ wr = w2) (fun _ _ _ => 0)
    case atStart => exact ⟨rfl, rfl, rfl⟩
    case round =>
      obtain ⟨rfl, rfl, rfl⟩ := hrel
      go_wp2_with fail
      all_goals go_ret
      all_goals exact ⟨ret_int HE.out, HB.out.trans (HB2.out.mono HB.out.size)⟩

end Go.Proofs.Ytpmjgkngkaleeaa
