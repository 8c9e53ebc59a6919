import Derived.Test.YtdpacbdejfjkcaaDecodeW
/- The document's SameExports, SameModule: of what tells the same they say so. -/
namespace Go.Proofs.Ytdpacbdejfjkcaa
open Go.RowKit

set_option maxHeartbeats 2000000 in
set_option maxRecDepth 100000 in
theorem SameExports_any (A A' : Option Addr) (c c' : Nat) (l : List Exp) (w : World) (h : Row Exp.cells 2 w A l) (h' : Row Exp.cells 2 w A' l) (hl : l.length ≤ big) :
    Calls Try.prog 76 #[.slice A l.length c, .slice A' l.length c'] w fun e w' => e = .returned (.bool true) ∧ Below w.heap.size w w' := by
  have H := Lib.hid h
  have H' := Lib.hid h'
  unfold big at hl
  clear h h'
  go_enter Try.func76, Try.ntmps76
  go_wp2_with fail
  go_loopw [5] (fun i wr => ∃ (j : Nat), j ≤ l.length ∧ i = .int .i64 j ∧ Below w.heap.size w wr) (fun i _ => l.length - (intOf i).toNat)
  case atStart => exact ⟨0, by omega, rfl, Below.refl _ _⟩
  case round =>
    obtain ⟨j, hj, rfl, hb⟩ := hrel
    have HB := Lib.hid hb
    by_cases hlt : j < l.length
    · have hlt' : (j : Int) < l.length := by omega
      obtain ⟨ad, rfl, hab, k0, k1⟩ := exp_at H.out hb j hlt
      obtain ⟨ad', rfl, hab', k0', k1'⟩ := exp_at H'.out hb j hlt
      obtain ⟨x, hx⟩ : ∃ x, x = l[j] := ⟨_, rfl⟩
      rw [← hx] at k0 k0' k1 k1'
      clear hx hb
      go_wp2_with fail
      go_quiet (fail)
      go_wp2_with fail
      go_roundw
      case rel => exact ⟨j + 1, by omega, by go_num, below_drewN HB.out _⟩
      case measure => (simp [intOf]; try omega)
    · go_wp2_with fail
      go_ret
      exact ⟨rfl, HB.out⟩

set_option maxHeartbeats 4000000 in
set_option maxRecDepth 100000 in
theorem SameMod_any (nm tx : ByteArray) (mj mn : Int) (ex : List Exp) (im : List Imp) (pa : List Pat) (eA iA pA eA' iA' pA' : Option Addr) (eC iC pC eC' iC' pC' : Nat) (w : World)
    (he : ExpsOk w eA ex) (he' : ExpsOk w eA' ex) (hi : ImpsOk w iA im) (hi' : ImpsOk w iA' im) (hp : PatsOk w pA pa) (hp' : PatsOk w pA' pa) :
    Calls Try.prog 37 #[.agg #[.string nm, .int .i64 mj, .int .i64 mn, .string tx, .slice eA ex.length eC, .slice iA im.length iC, .slice pA pa.length pC], .agg #[.string nm, .int .i64 mj, .int .i64 mn, .string tx, .slice eA' ex.length eC', .slice iA' im.length iC', .slice pA' pa.length pC']] w fun e w' => e = .returned (.bool true) ∧ Below w.heap.size w w' := by
  obtain ⟨w0, hw0⟩ : ∃ w0, w0 = w.alloc (.cells #[.string nm, .int .i64 mj, .int .i64 mn, .string tx, .slice eA ex.length eC, .slice iA im.length iC, .slice pA pa.length pC] 26) := ⟨_, rfl⟩
  obtain ⟨e0, e1, e2, e3, e4, e5, e6, hz, hb⟩ := box7 hw0
  obtain ⟨w1, hw1⟩ : ∃ w1, w1 = w0.alloc (.cells #[.string nm, .int .i64 mj, .int .i64 mn, .string tx, .slice eA' ex.length eC', .slice iA' im.length iC', .slice pA' pa.length pC'] 26) := ⟨_, rfl⟩
  obtain ⟨f0, f1, f2, f3, f4, f5, f6, hz1, hb1⟩ := box7 hw1
  rw [hz] at f0 f1 f2 f3 f4 f5 f6 hz1
  have x0 := (hb1.cell (p := ⟨w.heap.size, 0, none⟩) (by simp; omega)).trans e0
  have x1 := (hb1.cell (p := ⟨w.heap.size, 1, none⟩) (by simp; omega)).trans e1
  have x2 := (hb1.cell (p := ⟨w.heap.size, 2, none⟩) (by simp; omega)).trans e2
  have x3 := (hb1.cell (p := ⟨w.heap.size, 3, none⟩) (by simp; omega)).trans e3
  have x4 := (hb1.cell (p := ⟨w.heap.size, 4, none⟩) (by simp; omega)).trans e4
  have x5 := (hb1.cell (p := ⟨w.heap.size, 5, none⟩) (by simp; omega)).trans e5
  have x6 := (hb1.cell (p := ⟨w.heap.size, 6, none⟩) (by simp; omega)).trans e6
  have HB1 := Lib.hid (show Below w.heap.size w w1 from hb.trans (hb1.mono (by omega)))
  have hw0' := hw0.symm
  have hw1' := hw1.symm
  have cE := Lib.hid (fun W (hW : Below w.heap.size w W) => SameExports_any eA eA' eC eC' ex W (he.1.below hW) (he'.1.below hW) he.2.1)
  have HI := Lib.hid hi
  have HI' := Lib.hid hi'
  have HP := Lib.hid hp
  have HP' := Lib.hid hp'
  have hil := hi.2.1
  have hpl := hp.2
  unfold big at hil hpl
  have hz2 : w.heap.size + 1 < w1.heap.size := by omega
  have hz3 : w.heap.size < w1.heap.size := by omega
  clear hw0 hw1 hb hb1 he he' hi hi' hp hp' e0 e1 e2 e3 e4 e5 e6 hz1
  go_enter Try.func37, Try.ntmps37
  go_wp2_with (go_at_call 76; refine (cE.out _ HB1.out).mono ?_; rintro e w2 ⟨rfl, hb2⟩; obtain ⟨hc2, hf2⟩ := bcell hb2; have HB2 := Lib.hid (HB1.out.trans (hb2.mono (by omega))); have hz4 : w.heap.size + 1 < w2.heap.size := (by have := hb2.size; omega))
  have y5 := (hc2 w.heap.size 5 (by omega)).trans x5
  have y6 := (hc2 w.heap.size 6 (by omega)).trans x6
  have g5 := (hc2 (w.heap.size + 1) 5 (by omega)).trans f5
  have g6 := (hc2 (w.heap.size + 1) 6 (by omega)).trans f6
  clear x0 x1 x2 x3 x4 x5 x6 f0 f1 f2 f3 f4 f5 f6 hc2 hf2 hb2 cE
  go_loopw [5] (fun i wr => ∃ (j : Nat), j ≤ im.length ∧ i = .int .i64 j ∧ Below w2.heap.size w2 wr) (fun i _ => im.length - (intOf i).toNat)
  case atStart => exact ⟨0, by omega, rfl, Below.refl _ _⟩
  case round =>
    obtain ⟨j, hj, rfl, hb⟩ := hrel
    have HB := Lib.hid hb
    have r5 := (hb.cell (p := ⟨w.heap.size, 5, none⟩) (by simp; omega)).trans y5
    have s5 := (hb.cell (p := ⟨w.heap.size + 1, 5, none⟩) (by simp; omega)).trans g5
    have r6 := (hb.cell (p := ⟨w.heap.size, 6, none⟩) (by simp; omega)).trans y6
    have s6 := (hb.cell (p := ⟨w.heap.size + 1, 6, none⟩) (by simp; omega)).trans g6
    have HX := Lib.hid (HB2.out.trans (hb.mono (by omega)))
    by_cases hlt : j < im.length
    · have hlt' : (j : Int) < im.length := by omega
      obtain ⟨ad, rfl, hab, k0, k1, k2, k3⟩ := imp_at HI.out.1 HX.out j hlt
      obtain ⟨ad', rfl, hab', k0', k1', k2', k3'⟩ := imp_at HI'.out.1 HX.out j hlt
      obtain ⟨x, hx⟩ : ∃ x, x = im[j] := ⟨_, rfl⟩
      rw [← hx] at k0 k0' k1 k1' k2 k2' k3 k3'
      clear hx hb
      go_wp2_with fail
      go_quiet (fail)
      go_wp2_with fail
      go_roundw
      case rel => exact ⟨j + 1, by omega, by go_num, below_drewN HB.out _⟩
      case measure => (simp [intOf]; try omega)
    · clear hb
      have hwr : w.heap.size + 1 < wr.heap.size := by have := HB.out.size; omega
      go_wp2_with fail
      go_loopw [6] (fun i wr' => ∃ (j : Nat), j ≤ pa.length ∧ i = .int .i64 j ∧ Below w2.heap.size w2 wr') (fun i _ => pa.length - (intOf i).toNat)
      case atStart => exact ⟨0, by omega, rfl, HB.out⟩
      clear r5 s5 r6 s6 HB HX hwr
      case round =>
        obtain ⟨j, hj, rfl, hb⟩ := hrel
        have HB := Lib.hid hb
        have r6 := (hb.cell (p := ⟨w.heap.size, 6, none⟩) (by simp; omega)).trans y6
        have s6 := (hb.cell (p := ⟨w.heap.size + 1, 6, none⟩) (by simp; omega)).trans g6
        have HX := Lib.hid (HB2.out.trans (hb.mono (by omega)))
        by_cases hlt : j < pa.length
        · have hlt' : (j : Int) < pa.length := by omega
          obtain ⟨ad, rfl, hab, k0, k1, k2, k3⟩ := pat_at HP.out.1 HX.out j hlt
          obtain ⟨ad', rfl, hab', k0', k1', k2', k3'⟩ := pat_at HP'.out.1 HX.out j hlt
          obtain ⟨x, hx⟩ : ∃ x, x = pa[j] := ⟨_, rfl⟩
          rw [← hx] at k0 k0' k1 k1' k2 k2' k3 k3'
          clear hx hb
          go_wp2_with fail
          go_quiet (fail)
          go_wp2_with fail
          go_roundw
          case rel => exact ⟨j + 1, by omega, by go_num, below_drewN HB.out _⟩
          case measure => (simp [intOf]; try omega)
        · clear hb
          go_wp2_with fail
          go_ret
          exact ⟨rfl, HX.out⟩

theorem SameModule_any (a b : Mod) (w : World) (hs : SameC a b) (ha : a.ok w) (hb : b.ok w) :
    Calls Try.prog 37 #[a.v, b.v] w fun e w' => e = .returned (.bool true) ∧ Below w.heap.size w w' := by
  obtain ⟨nm, mj, mn, tx, ex, im, pa, eA, eC, iA, iC, pA, pC⟩ := a
  obtain ⟨nm', mj', mn', tx', ex', im', pa', eA', eC', iA', iC', pA', pC'⟩ := b
  obtain ⟨h1, h2, h3, h4, h5, h6, h7⟩ := hs
  simp only at h1 h2 h3 h4 h5 h6 h7
  subst h1 h2 h3 h4 h5 h6 h7
  exact SameMod_any nm tx mj mn ex im pa eA iA pA eA' iA' pA' eC iC pC eC' iC' pC' w ha.ex hb.ex ha.im hb.im ha.pa hb.pa

end Go.Proofs.Ytdpacbdejfjkcaa
