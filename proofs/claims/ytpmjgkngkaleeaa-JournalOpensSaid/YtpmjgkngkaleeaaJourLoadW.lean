import Derived.Test.YtpmjgkngkaleeaaJourW
/- A flash of ours is loaded (chapter L): journal.load. -/
namespace Go.Proofs.Ytpmjgkngkaleeaa
open Go.RowKit

/-- what a load hands back -/
def LoadPost (w : World) (S : List UInt8) (e : Ending) (w' : World) : Prop :=
  Below w.heap.size w w' ∧ (match jload S with
    | none => e = .returned (.tuple #[.pointer none, .bool false])
    | some p => ∃ B, w.heap.size ≤ B ∧ e = .returned (.tuple #[.pointer (some ⟨B, 0, none⟩), .bool true]) ∧ JSt w' B (ofBytes S) p.1 p.2.1 p.2.2)
def jmeas (B L : Nat) (w : World) : Nat := match w.cell? ⟨B, 1, none⟩ with | some (.int _ n) => L - n.toNat | _ => 0
theorem jmeas_eq {B L i : Nat} {w : World} (h : w.cell? ⟨B, 1, none⟩ = some (.int .i64 i)) : jmeas B L w = L - i := by
  unfold jmeas; rw [h]; simp

theorem read_bound {S E : List UInt8} {R : List ByteArray} {e : Nat} {p : List ByteArray × Nat} (h : readOf S E R e = some p) (he : e ≤ S.length) : p.2 ≤ S.length ∧ p.1.length ≤ R.length + 1 := by
  unfold readOf at h
  split at h
  · injection h with h; subst h; exact ⟨he, Nat.le_succ _⟩
  · split at h
    · cases h
    · next hb =>
      injection h with h; subst h
      exact ⟨by simp only; omega, by simp⟩
theorem jst_next {w : World} {B : Nat} {S : ByteArray} {i : Nat} {R : List ByteArray} {e : Nat} (h : JSt w B S i R e) : JSt (w.setCell ⟨B, 1, none⟩ (.int .i64 ((i : Int) + 1))) B S (i + 1) R e := by
  obtain ⟨A, c, hJ, hO⟩ := h
  rw [show (i : Int) + 1 = ((i + 1 : Nat) : Int) by omega]
  exact ⟨A, c, heap_setCell_same w B 1 _ _ _ hJ, hO.set_other hJ (by decide) 1 _⟩
theorem jst_end {w : World} {B : Nat} {S : ByteArray} {i : Nat} {R : List ByteArray} {e : Nat} (h : JSt w B S i R e) (e' : Nat) : JSt (w.setCell ⟨B, 3, none⟩ (.int .i64 (e' : Int))) B S i R e' := by
  obtain ⟨A, c, hJ, hO⟩ := h
  exact ⟨A, c, heap_setCell_same w B 3 _ _ _ hJ, hO.set_other hJ (by decide) 3 _⟩
theorem JSt.below {w w' : World} {B b : Nat} {S : ByteArray} {i : Nat} {R : List ByteArray} {e : Nat} (h : JSt w B S i R e) (hb : Below b w w') (hw : w.heap.size ≤ b) : JSt w' B S i R e := by
  obtain ⟨A, c, hJ, hO⟩ := h
  have := (Array.getElem?_eq_some_iff.1 hJ).1
  exact ⟨A, c, (hb.block B (by omega)).trans hJ, hO.below hb hw⟩

set_option maxHeartbeats 4000000 in
set_option maxRecDepth 100000 in
theorem load_any (f : Fl) (w : World) (h : f.ok w) (hf : flErr f.bl = 0) : Calls Try.prog 43 #[f.v] w (LoadPost w (flat f.bl)) := by
  obtain ⟨w1, hw1⟩ : ∃ w1, w1 = w.alloc (.cells #[.slice f.a f.bl.length f.c] 24) := ⟨_, rfl⟩
  obtain ⟨f0, hz1, hb1⟩ := box1 hw1
  have hw1' := hw1.symm
  have HB1 := Lib.hid hb1
  have cA := Lib.hid (All_any f w1 (h.below hb1) hf)
  have hSl := flat_len hf
  have h32 := (flErr_ok.1 hf).1
  obtain ⟨SB, hSB⟩ : ∃ SB, SB = flat f.bl := ⟨_, rfl⟩
  rw [← hSB] at cA hSl ⊢
  obtain ⟨S, hS⟩ : ∃ S, S = ofBytes SB := ⟨_, rfl⟩
  have hSz : S.size = SB.length := by rw [hS, ofBytes_size]
  have hSS : bytesOf S = SB := by rw [hS, bytes_of]
  rw [← hS] at cA
  have HS := Lib.hid hS
  have HSS := Lib.hid hSS
  obtain ⟨L, hL⟩ : ∃ L, L = SB.length := ⟨_, rfl⟩
  rw [← hL] at hSl hSz
  have HL := Lib.hid hL
  have HSZ := Lib.hid hSz
  have hL4 : L ≤ 4096 := by omega
  unfold Fl.v
  clear hw1 hb1 h hf hSB hS hSS hL hSl h32
  go_enter Try.func43, Try.ntmps43
  go_wp2_with (
    go_at_call 31
    refine (cA.out).mono ?_
    rintro e w2 ⟨rfl, hb2⟩
    obtain ⟨w3, hw3⟩ : ∃ x, x = w2.alloc (.cells #[.string S, .int .i64 0, .slice none 0 0, .int .i64 0] 75) := ⟨_, rfl⟩
    have hw3' := hw3.symm
    have hJ3 : JSt w3 w2.heap.size S 0 [] 0 := ⟨none, 0, hw3 ▸ heap_alloc_new _ _, TOwn.nil _ _⟩
    have hb3 : Below w2.heap.size w2 w3 := hw3 ▸ (Below.refl _ _).alloc (Nat.le_refl _) _
    have HJ3 := Lib.hid hJ3
    have HB2 := Lib.hid (HB1.out.trans (hb2.mono HB1.out.size))
    have HB3 := Lib.hid (HB2.out.trans (hb3.mono HB2.out.size))
    clear hw3 hJ3 hb2 hb3)
  go_loopw [3] (fun p wr => p = .bool false ∧ ∃ (i : Nat) (R : List ByteArray) (e : Nat), JSt wr w2.heap.size S i R e ∧ Below w2.heap.size w3 wr ∧ jscan SB (L + 1 - i) i R e = jscan SB (L + 1) 0 [] 0 ∧ 5 * i ≤ L ∧ e ≤ L ∧ R.length ≤ i) (fun _ wr => jmeas w2.heap.size L wr)
  case atStart => exact ⟨rfl, 0, [], 0, HJ3.out, Below.refl _ _, rfl, by omega, by omega, Nat.le_refl _⟩
  case round =>
    obtain ⟨rfl, i, R, e, hJ, hb, hsc, h5, heL, hRl⟩ := hrel
    have HJ := Lib.hid hJ
    obtain ⟨A, c, hJ, hO⟩ := hJ
    have s0 := cell_of_heap hJ 0
    have s1 := cell_of_heap hJ 1
    have s2 := cell_of_heap hJ 2
    have s3 := cell_of_heap hJ 3
    have f1 := free_of_heap hJ 1
    have f3 := free_of_heap hJ 3
    simp only [List.getElem?_toArray, List.getElem?_cons_zero, List.getElem?_cons_succ] at s0 s1 s2 s3
    have HSC := Lib.hid hsc
    have HB := Lib.hid hb
    have HJJ := Lib.hid hJ
    have HO := Lib.hid hO
    have HMS := Lib.hid (jmeas_eq (L := L) s1)
    have cE := Lib.hid (fun n (h : 5 * (i + 1) ≤ S.size) => entry_any w2.heap.size S i (wr.drewN n) s0 h (by rw [HSZ.out]; omega))
    rw [HSS.out] at cE
    have v1 : IntKind.i64.wrap ((i : Int) + 1) = (i : Int) + 1 := IntWalk.i64_in _ (by omega)
    have v2 : IntKind.i64.wrap (5 * ((i : Int) + 1)) = 5 * ((i : Int) + 1) := IntWalk.i64_in _ (by omega)
    have hSzL : S.size = L := HSZ.out
    have cB := Lib.hid (fun b n (h : b = (((usedN (entryOf SB i) : Nat) : Int) == 0)) => jblank_any (ofBytes (entryOf SB i)) b (wr.drewN n) (by rw [ofBytes_size]; unfold entryOf; rw [List.length_take]; unfold big; omega) (by rw [bytes_of]; exact h))
    rw [hSzL] at cE
    clear hJ hO hb hsc
    go_upto_region 2 with fail
    go_cut [31] from 10 to 31 (fun c wx => c = .bool (decide (Begun SB i)) ∧ wx.heap = wr.heap ∧ Below wr.heap.size wr wx)
    case first =>
      by_cases hb5 : 5 * (i + 1) ≤ L
      · have t1 : decide (5 * ((i : Int) + 1) ≤ (L : Int)) = true := decide_eq_true (by omega)
        obtain ⟨b, hbb⟩ : ∃ b, b = (((usedN (entryOf SB i) : Nat) : Int) == 0) := ⟨_, rfl⟩
        have HG := Lib.hid (show decide (Begun SB i) = !b by
          by_cases hu : usedN (entryOf SB i) = 0
          · rw [hbb, hu]; exact decide_eq_false (fun h => h.2 hu)
          · rw [decide_eq_true (show Begun SB i from ⟨by rw [← HL.out]; exact hb5, hu⟩), hbb]; simp [hu])
        have HBB := Lib.hid hbb
        have HN := Lib.hid (fun n => (show Below wr.heap.size wr (wr.drewN n) from below_drewN (Below.refl _ _) n))
        clear hbb
        go_quiet ((first | (go_at_call 54; exact Calls.quiet_of_same (cE.out _ hb5)) | (go_at_call 53; exact Calls.quiet_of_same (cB.out b _ HBB.out))))
        go_wp2_with fail
        go_meet
        exact ⟨by rw [HG.out], rfl, HN.out _⟩
      · have t1 : decide (5 * ((i : Int) + 1) ≤ (L : Int)) = false := decide_eq_false (by omega)
        have HG := Lib.hid (show decide (Begun SB i) = false from decide_eq_false (fun h => hb5 (by rw [HL.out]; exact h.1)))
        have HN := Lib.hid (fun n => (show Below wr.heap.size wr (wr.drewN n) from below_drewN (Below.refl _ _) n))
        go_quiet (fail)
        go_wp2_with fail
        go_meet
        exact ⟨by rw [HG.out], rfl, HN.out _⟩
    case rest =>
      obtain ⟨rfl, hh, hb9⟩ := hcut
      obtain ⟨w9, rfl⟩ : ∃ W : World, W = wc := ⟨_, rfl⟩
      have HJ9 := Lib.hid (show w9.heap[w2.heap.size]? = some (.cells #[.string S, .int .i64 i, .slice A R.length c, .int .i64 e] 75 (0, 0)) by rw [hh]; exact HJJ.out)
      have HO9 := Lib.hid (show TOwn w9 (w2.heap.size + 1) (.slice A R.length c) R from HO.out.below hb9 (Nat.le_refl _))
      have HS9 := Lib.hid (show JSt w9 w2.heap.size S i R e from ⟨A, c, HJ9.out, HO9.out⟩)
      have t0 := cell_of_heap HJ9.out 0
      have t1 := cell_of_heap HJ9.out 1
      have t3 := cell_of_heap HJ9.out 3
      have g1 := free_of_heap HJ9.out 1
      have g3 := free_of_heap HJ9.out 3
      simp only [List.getElem?_toArray, List.getElem?_cons_zero, List.getElem?_cons_succ] at t0 t1 t3
      have hBw : w2.heap.size < w3.heap.size := (Array.getElem?_eq_some_iff.1 (show w3.heap[w2.heap.size]? = _ from HJ3.out.choose_spec.choose_spec.1)).1
      have HB9 := Lib.hid (HB.out.trans (hb9.mono (by have := HB.out.size; omega)))
      have HX := Lib.hid (show L + 1 - i = (L - i) + 1 by omega)
      have HSC2 := HSC.out
      rw [HX.out, jscan_succ] at HSC2
      have HSC3 := Lib.hid HSC2
      clear hh hb9 s0 s1 s2 s3 f1 f3 cE cB HSC2 v1 v2
      by_cases hbg : Begun SB i
      · rw [decide_eq_true hbg]
        have hsc := HSC3.out
        rw [if_pos hbg] at hsc
        have hb5 : 5 * (i + 1) ≤ L := by rw [HL.out]; exact hbg.1
        obtain ⟨E, hE⟩ : ∃ E, E = entryOf SB i := ⟨_, rfl⟩
        have hEl : E.length = 5 := by rw [hE]; exact entry_len hbg.1
        have cE := Lib.hid (entry_any w2.heap.size S i w9 t0 (by omega) (by omega))
        rw [HSS.out, ← hE] at cE
        rw [← hE] at hsc
        obtain ⟨EB, hEB⟩ : ∃ EB, EB = ofBytes E := ⟨_, rfl⟩
        have hEBz : EB.size = 5 := by rw [hEB, ofBytes_size, hEl]
        have hEBE : bytesOf EB = E := by rw [hEB, bytes_of]
        rw [← hEB] at cE
        have hiL : i < L := by omega
        have hiI : (i : Int) ≤ 4096 := by omega
        have HME := Lib.hid hiL
        clear hbg hE hEB hEl
        by_cases h4 : E.getD 4 0 ≠ 0
        · have hre : readOf SB E R e = some (R, e) := by unfold readOf; rw [if_pos h4]
          rw [hre] at hsc
          change jscan SB (L - i) (i + 1) R e = _ at hsc
          have HSN := Lib.hid (show jscan SB (L + 1 - (i + 1)) (i + 1) R e = jscan SB (L + 1) 0 [] 0 by rw [show L + 1 - (i + 1) = L - i by omega]; exact hsc)
          have cR := Lib.hid (fun W => read_skip w2.heap.size EB W hEBz (by rw [hEBE]; exact h4))
          have HJN := Lib.hid (jst_next HS9.out)
          have hH5 := Lib.hid hb5
          clear h4 hre hsc hEBE hEBz HSC3 hb5 hiL
          go_wp2_with (first | (go_at_call 54; refine (cE.out).mono ?_; rintro e w' ⟨rfl, rfl⟩) | (go_at_call 55; refine (cR.out _).mono ?_; rintro e w' ⟨rfl, rfl⟩))
          go_roundw
          case rel => exact ⟨rfl, i + 1, R, e, HJN.out, HB9.out.setCell (p := ⟨w2.heap.size, 1, none⟩) (Nat.le_refl _) _, HSN.out, hH5.out, heL, by omega⟩
          case measure =>
            rw [HMS.out]
            obtain ⟨A', c', hJ', _⟩ := HJN.out
            have := cell_of_heap hJ' 1
            simp only [List.getElem?_toArray, List.getElem?_cons_zero, List.getElem?_cons_succ] at this
            rw [jmeas_eq (i := i + 1) this]
            have := HME.out
            omega
        · have h40 : E.getD 4 0 = 0 := by
            by_cases h : E.getD 4 0 = 0
            · exact h
            · exact absurd h h4
          cases hre : readOf SB E R e with
          | none =>
            rw [hre] at hsc
            have HJL := Lib.hid (show jload SB = none by
              unfold jload
              rw [← HL.out, ← hsc])
            have cR := Lib.hid (read_bad w2.heap.size S EB i A c R e w9 hEBz (by omega) HJ9.out (by rw [hEBE]; exact h40) (by rw [hEBE, HSS.out]; exact hre))
            clear h4 h40 hre hsc hEBE hEBz HSC3 hb5 hiL
            go_wp2_with (first | (go_at_call 54; refine (cE.out).mono ?_; rintro e w' ⟨rfl, rfl⟩) | (go_at_call 55; refine (cR.out).mono ?_; rintro e w10 ⟨rfl, hb10⟩))
            go_ret2
            unfold LoadPost
            rw [HJL.out]
            exact ⟨HB3.out.trans ((HB9.out.trans (hb10.mono (by have := HB9.out.size; omega))).mono HB2.out.size), rfl⟩
          | some p =>
            rw [hre] at hsc
            change jscan SB (L - i) (i + 1) p.1 p.2 = _ at hsc
            have HSN := Lib.hid (show jscan SB (L + 1 - (i + 1)) (i + 1) p.1 p.2 = jscan SB (L + 1) 0 [] 0 by rw [show L + 1 - (i + 1) = L - i by omega]; exact hsc)
            have HPE := Lib.hid (read_bound hre (by rw [← HL.out]; exact heL))
            have cR := Lib.hid (read_ok w2.heap.size S EB i R e w9 hEBz (by omega) (by omega) (by omega) HS9.out (by rw [hEBE]; exact h40) p (by rw [hEBE, HSS.out]; exact hre))
            have hH5 := Lib.hid hb5
            clear h4 h40 hre hsc hEBE hEBz HSC3 hb5 hiL
            go_wp2_with (first
              | (go_at_call 54; refine (cE.out).mono ?_; rintro e w' ⟨rfl, rfl⟩)
              | (go_at_call 55; refine (cR.out).mono ?_; rintro e w10 ⟨rfl, hb10, hJ10⟩
                 have HJN := Lib.hid (jst_next hJ10)
                 obtain ⟨A10, c10, hJ10, hO10⟩ := hJ10
                 have u1 := cell_of_heap hJ10 1
                 have uf := free_of_heap hJ10 1
                 simp only [List.getElem?_toArray, List.getElem?_cons_zero, List.getElem?_cons_succ] at u1
                 have HB10 := Lib.hid (HB9.out.trans hb10)
                 clear hJ10 hO10 hb10))
            go_roundw
            case rel => exact ⟨rfl, i + 1, p.1, p.2, HJN.out, HB10.out.setCell (p := ⟨w2.heap.size, 1, none⟩) (Nat.le_refl _) _, HSN.out, hH5.out, by have := HPE.out.1; rw [← HL.out] at this; exact this, by have := HPE.out.2; omega⟩
            case measure =>
              rw [HMS.out]
              obtain ⟨A', c', hJ', _⟩ := HJN.out
              have := cell_of_heap hJ' 1
              simp only [List.getElem?_toArray, List.getElem?_cons_zero, List.getElem?_cons_succ] at this
              rw [jmeas_eq (i := i + 1) this]
              have := HME.out
              omega
      · rw [decide_eq_false hbg]
        have hsc := HSC3.out
        rw [if_neg hbg] at hsc
        have HJL := Lib.hid (show jload SB = some (i, R, max e (usedN (SB.take (L - 5 * i)))) by
          unfold jload
          rw [← HL.out, ← hsc])
        obtain ⟨t, ht⟩ : ∃ t, t = L - 5 * i := ⟨_, rfl⟩
        have HT := Lib.hid ht
        have q1 : IntKind.i64.wrap (5 * (i : Int)) = 5 * (i : Int) := IntWalk.i64_in _ (by omega)
        have q2 : IntKind.i64.wrap ((L : Int) - 5 * (i : Int)) = (t : Int) := by rw [IntWalk.i64_in _ (by omega)]; omega
        have q3 : (0 : Int) ≤ (t : Int) := by omega
        have q4 : (t : Int) ≤ (L : Int) := by omega
        obtain ⟨D, hD⟩ : ∃ D, D = ofBytes (SB.take t) := ⟨_, rfl⟩
        have hx : S.extract 0 t = D := by
          have := extract_of SB 0 t
          rw [Nat.zero_add, List.drop_zero, ← hD] at this
          rw [← this, HS.out]
        have cU := Lib.hid (fun W => used_any D W (by rw [hD, ofBytes_size, List.length_take]; unfold big; omega))
        rw [hD, bytes_of] at cU
        rw [← hD] at cU
        obtain ⟨u, hu⟩ : ∃ u, u = usedN (SB.take t) := ⟨_, rfl⟩
        rw [← hu] at cU
        have HJL2 := HJL.out
        rw [← ht, ← hu] at HJL2
        have HJLL := Lib.hid HJL2
        have HU := Lib.hid (show u ≤ L by rw [hu]; exact Nat.le_trans (usedTo_le _ _) (by rw [List.length_take]; omega))
        clear hbg hsc HJL2 hu hD ht HSC3
        go_upto_region 6 with fail
        go_quiet (fail)
        go_upto_region 7 with fail
        have HAJ := Lib.hid (show JSt (w9.drewN nq) w2.heap.size S i R e from HS9.out)
        have HAB := Lib.hid (show Below w2.heap.size w3 (w9.drewN nq) from below_drewN HB9.out nq)
        have y3 : (w9.drewN nq).cell? ⟨w2.heap.size, 3, none⟩ = some (.int .i64 e) := t3
        have yf : (w9.drewN nq).frozen? ⟨w2.heap.size, 3, none⟩ = false := g3
        clear t0 t1 t3 g1 g3 HJ9 HO9 HS9 HB9
        generalize w9.drewN nq = wA at *
        have HAD := Lib.hid (show JSt (wA.setCell ⟨w2.heap.size, 3, none⟩ (.int .i64 (max (e : Int) (u : Int)))).drew w2.heap.size S i R (max e u) ∧ Below w2.heap.size w3 (wA.setCell ⟨w2.heap.size, 3, none⟩ (.int .i64 (max (e : Int) (u : Int)))).drew from by
          rw [show max (e : Int) (u : Int) = ((max e u : Nat) : Int) by omega]
          exact ⟨jst_end HAJ.out (max e u), (HAB.out.setCell (p := ⟨w2.heap.size, 3, none⟩) (Nat.le_refl _) _).drew⟩)
        go_region_law ((go_simp; go_at_call 56; with_reducible refine (cU.out _).mono ?_; rintro e w' ⟨rfl, rfl⟩))
        all_goals (
          go_wp2_with fail
          go_ret2
          unfold LoadPost
          rw [HJLL.out]
          refine ⟨HB3.out.trans (HAD.out.2.mono HB2.out.size), w2.heap.size, HB2.out.size, rfl, ?_⟩
          rw [← HS.out]
          exact HAD.out.1)

end Go.Proofs.Ytpmjgkngkaleeaa
