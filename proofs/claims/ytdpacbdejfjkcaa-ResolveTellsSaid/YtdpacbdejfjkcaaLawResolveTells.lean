import Derived.Test.YtdpacbdejfjkcaaResBegun
import Derived.Test.YtdpacbdejfjkcaaOpen
/- ResolveTells: Kernel, Find and All answer just what the document says, errors too. No condition. -/
namespace Go.Proofs.Ytdpacbdejfjkcaa
open Go.ChangeShapes Go.WideShapes Go.ChangeAt Go.RowKit Go.WideMaps Go.WideElems
open Go.ChangeMaps (setBlock shut_map_nil open_string shut_string keptBut_setBlock frozen?_setBlock heap_setBlock_same)

theorem addrs_len {k : Krn} {l : List Plc} : ∀ r : List Imp, (addrsOf k l r).1.length ≤ r.length
  | [] => Nat.le_refl _
  | i :: r => by
    unfold addrsOf
    have := addrs_len (k := k) (l := l) r
    split
    · simp
    · split
      · simp
      · simp; exact this
theorem all_len {k : Krn} {l : List Plc} {m : Mod} {n : Nat} (h : m.im.length ≤ n) : (allOf k l m).1.length ≤ n := by
  unfold allOf
  split
  · simp
  · split
    · simp
    · exact Nat.le_trans (addrs_len _) h

set_option maxRecDepth 100000 in
set_option maxHeartbeats 8000000 in
theorem ResolveTells_any (k : Krn) (A : Option Addr) (l : List Plc) (c : Nat) (i : Imp) (m : Mod) (w : World) (hk : k.ok w) (h : PlsOk w A l) (hi : i.mod.size ≤ big ∧ i.name.size ≤ big) (hm : m.ok w) :
    Calls Try.prog 6 #[k.v, .slice A l.length c, i.v, m.v] w fun e w' => e = .returned (.bool true) ∧ Below w.heap.size w w' := by
  obtain ⟨wk, hwk⟩ : ∃ wk, wk = w.alloc (.cells #[.int .i64 k.major, .int .i64 k.minor, .slice k.eA k.ex.length k.eC] 50) := ⟨_, rfl⟩
  obtain ⟨g0, g1, g2, hzk, hbk⟩ := box3 hwk
  obtain ⟨wi, hwi⟩ : ∃ wi, wi = wk.alloc (.cells #[.string i.mod, .string i.name, .int .i64 i.major, .int .i64 i.minor] 52) := ⟨_, rfl⟩
  obtain ⟨f0, f1, f2, f3, hzi, hbi⟩ := box4 hwi
  rw [hzk] at f0 f1 f2 f3 hzi hbi
  obtain ⟨w0, hw0⟩ : ∃ w0, w0 = wi.alloc (.cells #[.string m.name, .int .i64 m.major, .int .i64 m.minor, .string m.text, .slice m.eA m.ex.length m.eC, .slice m.iA m.im.length m.iC, .slice m.pA m.pa.length m.pC] 26) := ⟨_, rfl⟩
  obtain ⟨e0, e1, e2, e3, e4, e5, e6, hz0, hb0⟩ := box7 hw0
  rw [hzi] at e0 e1 e2 e3 e4 e5 e6 hz0 hb0
  have hbki := hbi.trans (hb0.mono (by omega))
  have k0 := (hbki.cell (p := ⟨w.heap.size, 0, none⟩) (by simp)).trans g0
  have k1 := (hbki.cell (p := ⟨w.heap.size, 1, none⟩) (by simp)).trans g1
  have k2 := (hbki.cell (p := ⟨w.heap.size, 2, none⟩) (by simp)).trans g2
  have i0 := (hb0.cell (p := ⟨w.heap.size + 1, 0, none⟩) (by simp)).trans f0
  have i1 := (hb0.cell (p := ⟨w.heap.size + 1, 1, none⟩) (by simp)).trans f1
  have i2 := (hb0.cell (p := ⟨w.heap.size + 1, 2, none⟩) (by simp)).trans f2
  have i3 := (hb0.cell (p := ⟨w.heap.size + 1, 3, none⟩) (by simp)).trans f3
  have H0 := Lib.hid (show Below w.heap.size w w0 from hbk.trans (hbki.mono (by omega)))
  have hwk' := hwk.symm
  have hwi' := hwi.symm
  have hw0' := hw0.symm
  have hz1 : w.heap.size + 1 + 1 < w0.heap.size := by omega
  have hz2 : w.heap.size + 1 < w0.heap.size := by omega
  have hz3 : w.heap.size < w0.heap.size := by omega
  clear hwk hwi hw0 hbk hbi hb0 hbki g0 g1 g2 f0 f1 f2 f3 hz0
  have cF := Lib.hid (fun W (hb : Below w.heap.size w W) => Find_any k A c l i W (hk.below hb) (h.below hb) hi)
  have cA := Lib.hid (fun W (hb : Below w.heap.size w W) => All_any k A c l m W (hk.below hb) (h.below hb) (hm.below hb))
  have cC := Lib.hid (fun W (hb : Below w.heap.size w W) => checkFind_any k A c l W (hk.below hb) (h.below hb))
  have cI := Lib.hid (fun W (_ : Below w.heap.size w W) => CheckImport_any i.mod i.name i.major i.minor W hi.1 hi.2)
  have cM := Lib.hid (fun W (hb : Below w.heap.size w W) => CheckModule_any m W (hm.below hb))
  have cO := Lib.hid (fun hp W (hb : Below w.heap.size w W) => AddressOf_any k A c l i W (hk.below hb) (h.below hb) hp)
  have cS := Lib.hid (fun hp hi6 W (hb : Below w.heap.size w W) => AddressesOf_any k A c l m.name m.text m.major m.minor m.ex m.im m.pa m.eA m.iA m.pA m.eC m.iC m.pC W (hk.below hb) (h.below hb) (hm.below hb).im hi6 hp)
  have cK := Lib.hid (fun W (hb : Below w.heap.size w W) => Kernel_any k W (hk.below hb))
  have cR := Lib.hid (fun W (hb : Below w.heap.size w W) => CheckKernel_any k W (hk.below hb))
  have ei : impErr i = impErr ⟨i.mod, i.name, i.major, i.minor⟩ := rfl
  rw [← ei] at cI
  have hln := Lib.hid (all_len (k := k) (l := l) hm.im.2.1)
  obtain ⟨F, hF⟩ : ∃ F, F = findOf k l i := ⟨_, rfl⟩
  obtain ⟨L, hL⟩ : ∃ L, L = allOf k l m := ⟨_, rfl⟩
  rw [← hL] at hln
  simp only [← hF] at cF
  simp only [← hL] at cA
  unfold findOf at hF
  unfold allOf at hL
  clear ei hk h hi hm
  by_cases t1 : placedErr k l = 0
  · rw [if_neg (by omega)] at hF hL
    rw [t1] at cC
    have cO := Lib.hid (cO.out t1)
    have cS := Lib.hid (cS.out t1)
    clear t1
    by_cases t2 : impErr i = 0
    · rw [if_neg (by omega)] at hF
      rw [t2] at cI
      simp only [← hF] at cO
      clear t2 hF
      by_cases t3 : modErr m = 0
      · rw [if_neg (by omega)] at hL
        rw [t3] at cM
        have cS := Lib.hid (cS.out (modErr_facts t3).2.2.2.2.2.2.1)
        simp only [← hL] at cS
        clear t3 hL
        go_enter Try.func6, Try.ntmps6
        go_wp2_with (first | (go_at_call 21; refine (cF.out _ H0.out).mono ?_; rintro e w1 ⟨rfl, hw1⟩; obtain ⟨hcw1, hfw1⟩ := bcell hw1; have hsw1 := hw1.size; have hAw1 : w.heap.size + 1 + 1 < w1.heap.size := (by omega); have hBw1 : w.heap.size + 1 < w1.heap.size := (by omega); have hCw1 : w.heap.size < w1.heap.size := (by omega); have bw1 := H0.out.trans (hw1.mono (by omega))) | (go_at_call 22; refine (cA.out _ bw1).mono ?_; rintro e w2 ⟨⟨A2, c2, rfl, hr2⟩, hw2⟩; obtain ⟨hcw2, hfw2⟩ := bcell hw2; have hsw2 := hw2.size; have hAw2 : w.heap.size + 1 + 1 < w2.heap.size := (by omega); have hBw2 : w.heap.size + 1 < w2.heap.size := (by omega); have hCw2 : w.heap.size < w2.heap.size := (by omega); have bw2 := bw1.trans (hw2.mono (by omega))) | (go_at_call 23; refine (cC.out _ bw2).mono ?_; rintro e w3 ⟨rfl, hw3⟩; obtain ⟨hcw3, hfw3⟩ := bcell hw3; have hsw3 := hw3.size; have hAw3 : w.heap.size + 1 + 1 < w3.heap.size := (by omega); have hBw3 : w.heap.size + 1 < w3.heap.size := (by omega); have hCw3 : w.heap.size < w3.heap.size := (by omega); have bw3 := bw2.trans (hw3.mono (by omega))) | (go_at_call 24; refine (cI.out _ bw3).mono ?_; rintro e w4 ⟨rfl, hw4⟩; obtain ⟨hcw4, hfw4⟩ := bcell hw4; have hsw4 := hw4.size; have hAw4 : w.heap.size + 1 + 1 < w4.heap.size := (by omega); have hBw4 : w.heap.size + 1 < w4.heap.size := (by omega); have hCw4 : w.heap.size < w4.heap.size := (by omega); have bw4 := bw3.trans (hw4.mono (by omega))) | (go_at_call 14; refine (cM.out _ bw4).mono ?_; rintro e w5 ⟨rfl, hw5⟩; obtain ⟨hcw5, hfw5⟩ := bcell hw5; have hsw5 := hw5.size; have hAw5 : w.heap.size + 1 + 1 < w5.heap.size := (by omega); have hBw5 : w.heap.size + 1 < w5.heap.size := (by omega); have hCw5 : w.heap.size < w5.heap.size := (by omega); have bw5 := bw4.trans (hw5.mono (by omega))) | (go_at_call 25; refine (cO.out _ bw5).mono ?_; rintro e w6 ⟨rfl, hw6⟩; obtain ⟨hcw6, hfw6⟩ := bcell hw6; have hsw6 := hw6.size; have hAw6 : w.heap.size + 1 + 1 < w6.heap.size := (by omega); have hBw6 : w.heap.size + 1 < w6.heap.size := (by omega); have hCw6 : w.heap.size < w6.heap.size := (by omega); have bw6 := bw5.trans (hw6.mono (by omega))) | (go_at_call 26; refine (cS.out _ bw6).mono ?_; rintro e w7 ⟨⟨A7, c7, rfl, hr7⟩, hw7⟩; obtain ⟨hcw7, hfw7⟩ := bcell hw7; have hsw7 := hw7.size; have hAw7 : w.heap.size + 1 + 1 < w7.heap.size := (by omega); have hBw7 : w.heap.size + 1 < w7.heap.size := (by omega); have hCw7 : w.heap.size < w7.heap.size := (by omega); have bw7 := bw6.trans (hw7.mono (by omega))))
        have cSI := Lib.hid (fun W (hb : Below w7.heap.size w7 W) => (SameInts_any A2 A7 c2 c7 L.1 L.1 W ((hr2.below (((((hw3.trans (hw4.mono (by omega))).trans (hw5.mono (by omega))).trans (hw6.mono (by omega))).trans (hw7.mono (by omega))))).below hb) (hr7.below hb) hln.out hln.out).mono fun _ _ h => (⟨h.1.trans (ret_bool (by simp)), h.2⟩ : _ = Ending.returned (.bool true) ∧ _))
        have hch := Lib.hid (((((((hw1.trans (hw2.mono (by omega))).trans (hw3.mono (by omega))).trans (hw4.mono (by omega))).trans (hw5.mono (by omega))).trans (hw6.mono (by omega))).trans (hw7.mono (by omega))))
        have j0 := (hch.out.cell (p := ⟨w.heap.size, 0, none⟩) (by simp; omega)).trans k0
        have j1 := (hch.out.cell (p := ⟨w.heap.size, 1, none⟩) (by simp; omega)).trans k1
        have j2 := (hch.out.cell (p := ⟨w.heap.size, 2, none⟩) (by simp; omega)).trans k2
        have HC0 := Lib.hid (show (Below w7.heap.size w7 w7 ∧ w7.cell? ⟨w.heap.size, 0, none⟩ = some (.int .i64 k.major) ∧ w7.cell? ⟨w.heap.size, 1, none⟩ = some (.int .i64 k.minor) ∧ w7.cell? ⟨w.heap.size, 2, none⟩ = some (.slice k.eA k.ex.length k.eC)) from ⟨Below.refl _ _, j0, j1, j2⟩)
        have HCD := Lib.hid (show ∀ W' : World, (Below w7.heap.size w7 W' ∧ W'.cell? ⟨w.heap.size, 0, none⟩ = some (.int .i64 k.major) ∧ W'.cell? ⟨w.heap.size, 1, none⟩ = some (.int .i64 k.minor) ∧ W'.cell? ⟨w.heap.size, 2, none⟩ = some (.slice k.eA k.ex.length k.eC)) → (Below w7.heap.size w7 W'.drew ∧ W'.drew.cell? ⟨w.heap.size, 0, none⟩ = some (.int .i64 k.major) ∧ W'.drew.cell? ⟨w.heap.size, 1, none⟩ = some (.int .i64 k.minor) ∧ W'.drew.cell? ⟨w.heap.size, 2, none⟩ = some (.slice k.eA k.ex.length k.eC)) from fun W' ⟨b, a0, a1, a2⟩ => ⟨b.drew, a0, a1, a2⟩)
        have HCS := Lib.hid (show ∀ W' W2 : World, (Below w7.heap.size w7 W' ∧ W'.cell? ⟨w.heap.size, 0, none⟩ = some (.int .i64 k.major) ∧ W'.cell? ⟨w.heap.size, 1, none⟩ = some (.int .i64 k.minor) ∧ W'.cell? ⟨w.heap.size, 2, none⟩ = some (.slice k.eA k.ex.length k.eC)) → Below W'.heap.size W' W2 → (Below w7.heap.size w7 W2 ∧ W2.cell? ⟨w.heap.size, 0, none⟩ = some (.int .i64 k.major) ∧ W2.cell? ⟨w.heap.size, 1, none⟩ = some (.int .i64 k.minor) ∧ W2.cell? ⟨w.heap.size, 2, none⟩ = some (.slice k.eA k.ex.length k.eC)) from fun W' W2 ⟨b, a0, a1, a2⟩ hb =>
          have s := b.size
          ⟨b.trans (hb.mono s), (hb.cell (by simp; omega)).trans a0, (hb.cell (by simp; omega)).trans a1, (hb.cell (by simp; omega)).trans a2⟩)
        have HCB := Lib.hid (show ∀ W' : World, (Below w7.heap.size w7 W' ∧ W'.cell? ⟨w.heap.size, 0, none⟩ = some (.int .i64 k.major) ∧ W'.cell? ⟨w.heap.size, 1, none⟩ = some (.int .i64 k.minor) ∧ W'.cell? ⟨w.heap.size, 2, none⟩ = some (.slice k.eA k.ex.length k.eC)) → Below w.heap.size w W' from fun W' hc => bw7.trans (hc.1.mono (by omega)))
        have HCL := Lib.hid (show ∀ W' : World, (Below w7.heap.size w7 W' ∧ W'.cell? ⟨w.heap.size, 0, none⟩ = some (.int .i64 k.major) ∧ W'.cell? ⟨w.heap.size, 1, none⟩ = some (.int .i64 k.minor) ∧ W'.cell? ⟨w.heap.size, 2, none⟩ = some (.slice k.eA k.ex.length k.eC)) → Below w7.heap.size w7 W' from fun W' hc => hc.1)
        go_region_held3 (fun W' => Below w7.heap.size w7 W' ∧ W'.cell? ⟨w.heap.size, 0, none⟩ = some (.int .i64 k.major) ∧ W'.cell? ⟨w.heap.size, 1, none⟩ = some (.int .i64 k.minor) ∧ W'.cell? ⟨w.heap.size, 2, none⟩ = some (.slice k.eA k.ex.length k.eC)) (first | exact HC0.out | exact HCD.out _ (by assumption) | exact HCS.out _ _ (by assumption) (by assumption) | assumption) (first | (go_at_call 27; refine (resolveBegun_any _).mono ?_; rintro e wz ⟨rfl, hbz⟩) | (go_at_call 28; refine (cK.out _ (HCB.out _ (by assumption))).mono ?_; rintro e wz ⟨rfl, hbz⟩) | (go_at_call 29; refine (cR.out _ (HCB.out _ (by assumption))).mono ?_; rintro e wz ⟨rfl, hbz⟩) | (go_at_call 30; refine (cSI.out _ (HCL.out _ (by assumption))).mono ?_; rintro e wz ⟨rfl, hbz⟩))
        have hLast : Below w7.heap.size w7 wz := And.left (by assumption)
        clear HC0 HCD HCS HCB HCL
        go_wp2_with fail
        go_ret
        exact ⟨by simp, bw7.trans (hLast.mono (by omega))⟩
      · rw [if_pos t3] at hL
        have t3' : (modErr m == 0) = false := by simp [t3]
        clear t3 cS
        generalize modErr m = me at *
        obtain rfl := hL
        go_enter Try.func6, Try.ntmps6
        go_wp2_with (first | (go_at_call 21; refine (cF.out _ H0.out).mono ?_; rintro e w1 ⟨rfl, hw1⟩; obtain ⟨hcw1, hfw1⟩ := bcell hw1; have hsw1 := hw1.size; have hAw1 : w.heap.size + 1 + 1 < w1.heap.size := (by omega); have hBw1 : w.heap.size + 1 < w1.heap.size := (by omega); have hCw1 : w.heap.size < w1.heap.size := (by omega); have bw1 := H0.out.trans (hw1.mono (by omega))) | (go_at_call 22; refine (cA.out _ bw1).mono ?_; rintro e w2 ⟨⟨A2, c2, rfl, hr2⟩, hw2⟩; obtain ⟨hcw2, hfw2⟩ := bcell hw2; have hsw2 := hw2.size; have hAw2 : w.heap.size + 1 + 1 < w2.heap.size := (by omega); have hBw2 : w.heap.size + 1 < w2.heap.size := (by omega); have hCw2 : w.heap.size < w2.heap.size := (by omega); have bw2 := bw1.trans (hw2.mono (by omega))) | (go_at_call 23; refine (cC.out _ bw2).mono ?_; rintro e w3 ⟨rfl, hw3⟩; obtain ⟨hcw3, hfw3⟩ := bcell hw3; have hsw3 := hw3.size; have hAw3 : w.heap.size + 1 + 1 < w3.heap.size := (by omega); have hBw3 : w.heap.size + 1 < w3.heap.size := (by omega); have hCw3 : w.heap.size < w3.heap.size := (by omega); have bw3 := bw2.trans (hw3.mono (by omega))) | (go_at_call 24; refine (cI.out _ bw3).mono ?_; rintro e w4 ⟨rfl, hw4⟩; obtain ⟨hcw4, hfw4⟩ := bcell hw4; have hsw4 := hw4.size; have hAw4 : w.heap.size + 1 + 1 < w4.heap.size := (by omega); have hBw4 : w.heap.size + 1 < w4.heap.size := (by omega); have hCw4 : w.heap.size < w4.heap.size := (by omega); have bw4 := bw3.trans (hw4.mono (by omega))) | (go_at_call 14; refine (cM.out _ bw4).mono ?_; rintro e w5 ⟨rfl, hw5⟩; obtain ⟨hcw5, hfw5⟩ := bcell hw5; have hsw5 := hw5.size; have hAw5 : w.heap.size + 1 + 1 < w5.heap.size := (by omega); have hBw5 : w.heap.size + 1 < w5.heap.size := (by omega); have hCw5 : w.heap.size < w5.heap.size := (by omega); have bw5 := bw4.trans (hw5.mono (by omega))) | (go_at_call 25; refine (cO.out _ bw5).mono ?_; rintro e w6 ⟨rfl, hw6⟩; obtain ⟨hcw6, hfw6⟩ := bcell hw6; have hsw6 := hw6.size; have hAw6 : w.heap.size + 1 + 1 < w6.heap.size := (by omega); have hBw6 : w.heap.size + 1 < w6.heap.size := (by omega); have hCw6 : w.heap.size < w6.heap.size := (by omega); have bw6 := bw5.trans (hw6.mono (by omega))))
        have cSI := Lib.hid (fun W (hb : Below w6.heap.size w6 W) => (SameInts_any A2 none c2 0 [] [] W ((hr2.below ((((hw3.trans (hw4.mono (by omega))).trans (hw5.mono (by omega))).trans (hw6.mono (by omega))))).below hb) Row.nil (by simp) (by simp)).mono fun _ _ h => (⟨h.1.trans (ret_bool (by simp)), h.2⟩ : _ = Ending.returned (.bool true) ∧ _))
        have hch := Lib.hid ((((((hw1.trans (hw2.mono (by omega))).trans (hw3.mono (by omega))).trans (hw4.mono (by omega))).trans (hw5.mono (by omega))).trans (hw6.mono (by omega))))
        have j0 := (hch.out.cell (p := ⟨w.heap.size, 0, none⟩) (by simp; omega)).trans k0
        have j1 := (hch.out.cell (p := ⟨w.heap.size, 1, none⟩) (by simp; omega)).trans k1
        have j2 := (hch.out.cell (p := ⟨w.heap.size, 2, none⟩) (by simp; omega)).trans k2
        have HC0 := Lib.hid (show (Below w6.heap.size w6 w6 ∧ w6.cell? ⟨w.heap.size, 0, none⟩ = some (.int .i64 k.major) ∧ w6.cell? ⟨w.heap.size, 1, none⟩ = some (.int .i64 k.minor) ∧ w6.cell? ⟨w.heap.size, 2, none⟩ = some (.slice k.eA k.ex.length k.eC)) from ⟨Below.refl _ _, j0, j1, j2⟩)
        have HCD := Lib.hid (show ∀ W' : World, (Below w6.heap.size w6 W' ∧ W'.cell? ⟨w.heap.size, 0, none⟩ = some (.int .i64 k.major) ∧ W'.cell? ⟨w.heap.size, 1, none⟩ = some (.int .i64 k.minor) ∧ W'.cell? ⟨w.heap.size, 2, none⟩ = some (.slice k.eA k.ex.length k.eC)) → (Below w6.heap.size w6 W'.drew ∧ W'.drew.cell? ⟨w.heap.size, 0, none⟩ = some (.int .i64 k.major) ∧ W'.drew.cell? ⟨w.heap.size, 1, none⟩ = some (.int .i64 k.minor) ∧ W'.drew.cell? ⟨w.heap.size, 2, none⟩ = some (.slice k.eA k.ex.length k.eC)) from fun W' ⟨b, a0, a1, a2⟩ => ⟨b.drew, a0, a1, a2⟩)
        have HCS := Lib.hid (show ∀ W' W2 : World, (Below w6.heap.size w6 W' ∧ W'.cell? ⟨w.heap.size, 0, none⟩ = some (.int .i64 k.major) ∧ W'.cell? ⟨w.heap.size, 1, none⟩ = some (.int .i64 k.minor) ∧ W'.cell? ⟨w.heap.size, 2, none⟩ = some (.slice k.eA k.ex.length k.eC)) → Below W'.heap.size W' W2 → (Below w6.heap.size w6 W2 ∧ W2.cell? ⟨w.heap.size, 0, none⟩ = some (.int .i64 k.major) ∧ W2.cell? ⟨w.heap.size, 1, none⟩ = some (.int .i64 k.minor) ∧ W2.cell? ⟨w.heap.size, 2, none⟩ = some (.slice k.eA k.ex.length k.eC)) from fun W' W2 ⟨b, a0, a1, a2⟩ hb =>
          have s := b.size
          ⟨b.trans (hb.mono s), (hb.cell (by simp; omega)).trans a0, (hb.cell (by simp; omega)).trans a1, (hb.cell (by simp; omega)).trans a2⟩)
        have HCB := Lib.hid (show ∀ W' : World, (Below w6.heap.size w6 W' ∧ W'.cell? ⟨w.heap.size, 0, none⟩ = some (.int .i64 k.major) ∧ W'.cell? ⟨w.heap.size, 1, none⟩ = some (.int .i64 k.minor) ∧ W'.cell? ⟨w.heap.size, 2, none⟩ = some (.slice k.eA k.ex.length k.eC)) → Below w.heap.size w W' from fun W' hc => bw6.trans (hc.1.mono (by omega)))
        have HCL := Lib.hid (show ∀ W' : World, (Below w6.heap.size w6 W' ∧ W'.cell? ⟨w.heap.size, 0, none⟩ = some (.int .i64 k.major) ∧ W'.cell? ⟨w.heap.size, 1, none⟩ = some (.int .i64 k.minor) ∧ W'.cell? ⟨w.heap.size, 2, none⟩ = some (.slice k.eA k.ex.length k.eC)) → Below w6.heap.size w6 W' from fun W' hc => hc.1)
        go_region_held3 (fun W' => Below w6.heap.size w6 W' ∧ W'.cell? ⟨w.heap.size, 0, none⟩ = some (.int .i64 k.major) ∧ W'.cell? ⟨w.heap.size, 1, none⟩ = some (.int .i64 k.minor) ∧ W'.cell? ⟨w.heap.size, 2, none⟩ = some (.slice k.eA k.ex.length k.eC)) (first | exact HC0.out | exact HCD.out _ (by assumption) | exact HCS.out _ _ (by assumption) (by assumption) | assumption) (first | (go_at_call 27; refine (resolveBegun_any _).mono ?_; rintro e wz ⟨rfl, hbz⟩) | (go_at_call 28; refine (cK.out _ (HCB.out _ (by assumption))).mono ?_; rintro e wz ⟨rfl, hbz⟩) | (go_at_call 29; refine (cR.out _ (HCB.out _ (by assumption))).mono ?_; rintro e wz ⟨rfl, hbz⟩) | (go_at_call 30; refine (cSI.out _ (HCL.out _ (by assumption))).mono ?_; rintro e wz ⟨rfl, hbz⟩))
        have hLast : Below w6.heap.size w6 wz := And.left (by assumption)
        clear HC0 HCD HCS HCB HCL
        go_wp2_with fail
        go_ret
        exact ⟨by simp, bw6.trans (hLast.mono (by omega))⟩
    · rw [if_pos t2] at hF
      have t2' : (impErr i == 0) = false := by simp [t2]
      clear t2 cO
      generalize impErr i = ie at *
      obtain rfl := hF
      by_cases t3 : modErr m = 0
      · rw [if_neg (by omega)] at hL
        rw [t3] at cM
        have cS := Lib.hid (cS.out (modErr_facts t3).2.2.2.2.2.2.1)
        simp only [← hL] at cS
        clear t3 hL
        go_enter Try.func6, Try.ntmps6
        go_wp2_with (first | (go_at_call 21; refine (cF.out _ H0.out).mono ?_; rintro e w1 ⟨rfl, hw1⟩; obtain ⟨hcw1, hfw1⟩ := bcell hw1; have hsw1 := hw1.size; have hAw1 : w.heap.size + 1 + 1 < w1.heap.size := (by omega); have hBw1 : w.heap.size + 1 < w1.heap.size := (by omega); have hCw1 : w.heap.size < w1.heap.size := (by omega); have bw1 := H0.out.trans (hw1.mono (by omega))) | (go_at_call 22; refine (cA.out _ bw1).mono ?_; rintro e w2 ⟨⟨A2, c2, rfl, hr2⟩, hw2⟩; obtain ⟨hcw2, hfw2⟩ := bcell hw2; have hsw2 := hw2.size; have hAw2 : w.heap.size + 1 + 1 < w2.heap.size := (by omega); have hBw2 : w.heap.size + 1 < w2.heap.size := (by omega); have hCw2 : w.heap.size < w2.heap.size := (by omega); have bw2 := bw1.trans (hw2.mono (by omega))) | (go_at_call 23; refine (cC.out _ bw2).mono ?_; rintro e w3 ⟨rfl, hw3⟩; obtain ⟨hcw3, hfw3⟩ := bcell hw3; have hsw3 := hw3.size; have hAw3 : w.heap.size + 1 + 1 < w3.heap.size := (by omega); have hBw3 : w.heap.size + 1 < w3.heap.size := (by omega); have hCw3 : w.heap.size < w3.heap.size := (by omega); have bw3 := bw2.trans (hw3.mono (by omega))) | (go_at_call 24; refine (cI.out _ bw3).mono ?_; rintro e w4 ⟨rfl, hw4⟩; obtain ⟨hcw4, hfw4⟩ := bcell hw4; have hsw4 := hw4.size; have hAw4 : w.heap.size + 1 + 1 < w4.heap.size := (by omega); have hBw4 : w.heap.size + 1 < w4.heap.size := (by omega); have hCw4 : w.heap.size < w4.heap.size := (by omega); have bw4 := bw3.trans (hw4.mono (by omega))) | (go_at_call 14; refine (cM.out _ bw4).mono ?_; rintro e w5 ⟨rfl, hw5⟩; obtain ⟨hcw5, hfw5⟩ := bcell hw5; have hsw5 := hw5.size; have hAw5 : w.heap.size + 1 + 1 < w5.heap.size := (by omega); have hBw5 : w.heap.size + 1 < w5.heap.size := (by omega); have hCw5 : w.heap.size < w5.heap.size := (by omega); have bw5 := bw4.trans (hw5.mono (by omega))) | (go_at_call 26; refine (cS.out _ bw5).mono ?_; rintro e w7 ⟨⟨A7, c7, rfl, hr7⟩, hw7⟩; obtain ⟨hcw7, hfw7⟩ := bcell hw7; have hsw7 := hw7.size; have hAw7 : w.heap.size + 1 + 1 < w7.heap.size := (by omega); have hBw7 : w.heap.size + 1 < w7.heap.size := (by omega); have hCw7 : w.heap.size < w7.heap.size := (by omega); have bw7 := bw5.trans (hw7.mono (by omega))))
        have cSI := Lib.hid (fun W (hb : Below w7.heap.size w7 W) => (SameInts_any A2 A7 c2 c7 L.1 L.1 W ((hr2.below ((((hw3.trans (hw4.mono (by omega))).trans (hw5.mono (by omega))).trans (hw7.mono (by omega))))).below hb) (hr7.below hb) hln.out hln.out).mono fun _ _ h => (⟨h.1.trans (ret_bool (by simp)), h.2⟩ : _ = Ending.returned (.bool true) ∧ _))
        have hch := Lib.hid ((((((hw1.trans (hw2.mono (by omega))).trans (hw3.mono (by omega))).trans (hw4.mono (by omega))).trans (hw5.mono (by omega))).trans (hw7.mono (by omega))))
        have j0 := (hch.out.cell (p := ⟨w.heap.size, 0, none⟩) (by simp; omega)).trans k0
        have j1 := (hch.out.cell (p := ⟨w.heap.size, 1, none⟩) (by simp; omega)).trans k1
        have j2 := (hch.out.cell (p := ⟨w.heap.size, 2, none⟩) (by simp; omega)).trans k2
        have HC0 := Lib.hid (show (Below w7.heap.size w7 w7 ∧ w7.cell? ⟨w.heap.size, 0, none⟩ = some (.int .i64 k.major) ∧ w7.cell? ⟨w.heap.size, 1, none⟩ = some (.int .i64 k.minor) ∧ w7.cell? ⟨w.heap.size, 2, none⟩ = some (.slice k.eA k.ex.length k.eC)) from ⟨Below.refl _ _, j0, j1, j2⟩)
        have HCD := Lib.hid (show ∀ W' : World, (Below w7.heap.size w7 W' ∧ W'.cell? ⟨w.heap.size, 0, none⟩ = some (.int .i64 k.major) ∧ W'.cell? ⟨w.heap.size, 1, none⟩ = some (.int .i64 k.minor) ∧ W'.cell? ⟨w.heap.size, 2, none⟩ = some (.slice k.eA k.ex.length k.eC)) → (Below w7.heap.size w7 W'.drew ∧ W'.drew.cell? ⟨w.heap.size, 0, none⟩ = some (.int .i64 k.major) ∧ W'.drew.cell? ⟨w.heap.size, 1, none⟩ = some (.int .i64 k.minor) ∧ W'.drew.cell? ⟨w.heap.size, 2, none⟩ = some (.slice k.eA k.ex.length k.eC)) from fun W' ⟨b, a0, a1, a2⟩ => ⟨b.drew, a0, a1, a2⟩)
        have HCS := Lib.hid (show ∀ W' W2 : World, (Below w7.heap.size w7 W' ∧ W'.cell? ⟨w.heap.size, 0, none⟩ = some (.int .i64 k.major) ∧ W'.cell? ⟨w.heap.size, 1, none⟩ = some (.int .i64 k.minor) ∧ W'.cell? ⟨w.heap.size, 2, none⟩ = some (.slice k.eA k.ex.length k.eC)) → Below W'.heap.size W' W2 → (Below w7.heap.size w7 W2 ∧ W2.cell? ⟨w.heap.size, 0, none⟩ = some (.int .i64 k.major) ∧ W2.cell? ⟨w.heap.size, 1, none⟩ = some (.int .i64 k.minor) ∧ W2.cell? ⟨w.heap.size, 2, none⟩ = some (.slice k.eA k.ex.length k.eC)) from fun W' W2 ⟨b, a0, a1, a2⟩ hb =>
          have s := b.size
          ⟨b.trans (hb.mono s), (hb.cell (by simp; omega)).trans a0, (hb.cell (by simp; omega)).trans a1, (hb.cell (by simp; omega)).trans a2⟩)
        have HCB := Lib.hid (show ∀ W' : World, (Below w7.heap.size w7 W' ∧ W'.cell? ⟨w.heap.size, 0, none⟩ = some (.int .i64 k.major) ∧ W'.cell? ⟨w.heap.size, 1, none⟩ = some (.int .i64 k.minor) ∧ W'.cell? ⟨w.heap.size, 2, none⟩ = some (.slice k.eA k.ex.length k.eC)) → Below w.heap.size w W' from fun W' hc => bw7.trans (hc.1.mono (by omega)))
        have HCL := Lib.hid (show ∀ W' : World, (Below w7.heap.size w7 W' ∧ W'.cell? ⟨w.heap.size, 0, none⟩ = some (.int .i64 k.major) ∧ W'.cell? ⟨w.heap.size, 1, none⟩ = some (.int .i64 k.minor) ∧ W'.cell? ⟨w.heap.size, 2, none⟩ = some (.slice k.eA k.ex.length k.eC)) → Below w7.heap.size w7 W' from fun W' hc => hc.1)
        go_region_held3 (fun W' => Below w7.heap.size w7 W' ∧ W'.cell? ⟨w.heap.size, 0, none⟩ = some (.int .i64 k.major) ∧ W'.cell? ⟨w.heap.size, 1, none⟩ = some (.int .i64 k.minor) ∧ W'.cell? ⟨w.heap.size, 2, none⟩ = some (.slice k.eA k.ex.length k.eC)) (first | exact HC0.out | exact HCD.out _ (by assumption) | exact HCS.out _ _ (by assumption) (by assumption) | assumption) (first | (go_at_call 27; refine (resolveBegun_any _).mono ?_; rintro e wz ⟨rfl, hbz⟩) | (go_at_call 28; refine (cK.out _ (HCB.out _ (by assumption))).mono ?_; rintro e wz ⟨rfl, hbz⟩) | (go_at_call 29; refine (cR.out _ (HCB.out _ (by assumption))).mono ?_; rintro e wz ⟨rfl, hbz⟩) | (go_at_call 30; refine (cSI.out _ (HCL.out _ (by assumption))).mono ?_; rintro e wz ⟨rfl, hbz⟩))
        have hLast : Below w7.heap.size w7 wz := And.left (by assumption)
        clear HC0 HCD HCS HCB HCL
        go_wp2_with fail
        go_ret
        exact ⟨by simp, bw7.trans (hLast.mono (by omega))⟩
      · rw [if_pos t3] at hL
        have t3' : (modErr m == 0) = false := by simp [t3]
        clear t3 cS
        generalize modErr m = me at *
        obtain rfl := hL
        go_enter Try.func6, Try.ntmps6
        go_wp2_with (first | (go_at_call 21; refine (cF.out _ H0.out).mono ?_; rintro e w1 ⟨rfl, hw1⟩; obtain ⟨hcw1, hfw1⟩ := bcell hw1; have hsw1 := hw1.size; have hAw1 : w.heap.size + 1 + 1 < w1.heap.size := (by omega); have hBw1 : w.heap.size + 1 < w1.heap.size := (by omega); have hCw1 : w.heap.size < w1.heap.size := (by omega); have bw1 := H0.out.trans (hw1.mono (by omega))) | (go_at_call 22; refine (cA.out _ bw1).mono ?_; rintro e w2 ⟨⟨A2, c2, rfl, hr2⟩, hw2⟩; obtain ⟨hcw2, hfw2⟩ := bcell hw2; have hsw2 := hw2.size; have hAw2 : w.heap.size + 1 + 1 < w2.heap.size := (by omega); have hBw2 : w.heap.size + 1 < w2.heap.size := (by omega); have hCw2 : w.heap.size < w2.heap.size := (by omega); have bw2 := bw1.trans (hw2.mono (by omega))) | (go_at_call 23; refine (cC.out _ bw2).mono ?_; rintro e w3 ⟨rfl, hw3⟩; obtain ⟨hcw3, hfw3⟩ := bcell hw3; have hsw3 := hw3.size; have hAw3 : w.heap.size + 1 + 1 < w3.heap.size := (by omega); have hBw3 : w.heap.size + 1 < w3.heap.size := (by omega); have hCw3 : w.heap.size < w3.heap.size := (by omega); have bw3 := bw2.trans (hw3.mono (by omega))) | (go_at_call 24; refine (cI.out _ bw3).mono ?_; rintro e w4 ⟨rfl, hw4⟩; obtain ⟨hcw4, hfw4⟩ := bcell hw4; have hsw4 := hw4.size; have hAw4 : w.heap.size + 1 + 1 < w4.heap.size := (by omega); have hBw4 : w.heap.size + 1 < w4.heap.size := (by omega); have hCw4 : w.heap.size < w4.heap.size := (by omega); have bw4 := bw3.trans (hw4.mono (by omega))) | (go_at_call 14; refine (cM.out _ bw4).mono ?_; rintro e w5 ⟨rfl, hw5⟩; obtain ⟨hcw5, hfw5⟩ := bcell hw5; have hsw5 := hw5.size; have hAw5 : w.heap.size + 1 + 1 < w5.heap.size := (by omega); have hBw5 : w.heap.size + 1 < w5.heap.size := (by omega); have hCw5 : w.heap.size < w5.heap.size := (by omega); have bw5 := bw4.trans (hw5.mono (by omega))))
        have cSI := Lib.hid (fun W (hb : Below w5.heap.size w5 W) => (SameInts_any A2 none c2 0 [] [] W ((hr2.below (((hw3.trans (hw4.mono (by omega))).trans (hw5.mono (by omega))))).below hb) Row.nil (by simp) (by simp)).mono fun _ _ h => (⟨h.1.trans (ret_bool (by simp)), h.2⟩ : _ = Ending.returned (.bool true) ∧ _))
        have hch := Lib.hid (((((hw1.trans (hw2.mono (by omega))).trans (hw3.mono (by omega))).trans (hw4.mono (by omega))).trans (hw5.mono (by omega))))
        have j0 := (hch.out.cell (p := ⟨w.heap.size, 0, none⟩) (by simp; omega)).trans k0
        have j1 := (hch.out.cell (p := ⟨w.heap.size, 1, none⟩) (by simp; omega)).trans k1
        have j2 := (hch.out.cell (p := ⟨w.heap.size, 2, none⟩) (by simp; omega)).trans k2
        have HC0 := Lib.hid (show (Below w5.heap.size w5 w5 ∧ w5.cell? ⟨w.heap.size, 0, none⟩ = some (.int .i64 k.major) ∧ w5.cell? ⟨w.heap.size, 1, none⟩ = some (.int .i64 k.minor) ∧ w5.cell? ⟨w.heap.size, 2, none⟩ = some (.slice k.eA k.ex.length k.eC)) from ⟨Below.refl _ _, j0, j1, j2⟩)
        have HCD := Lib.hid (show ∀ W' : World, (Below w5.heap.size w5 W' ∧ W'.cell? ⟨w.heap.size, 0, none⟩ = some (.int .i64 k.major) ∧ W'.cell? ⟨w.heap.size, 1, none⟩ = some (.int .i64 k.minor) ∧ W'.cell? ⟨w.heap.size, 2, none⟩ = some (.slice k.eA k.ex.length k.eC)) → (Below w5.heap.size w5 W'.drew ∧ W'.drew.cell? ⟨w.heap.size, 0, none⟩ = some (.int .i64 k.major) ∧ W'.drew.cell? ⟨w.heap.size, 1, none⟩ = some (.int .i64 k.minor) ∧ W'.drew.cell? ⟨w.heap.size, 2, none⟩ = some (.slice k.eA k.ex.length k.eC)) from fun W' ⟨b, a0, a1, a2⟩ => ⟨b.drew, a0, a1, a2⟩)
        have HCS := Lib.hid (show ∀ W' W2 : World, (Below w5.heap.size w5 W' ∧ W'.cell? ⟨w.heap.size, 0, none⟩ = some (.int .i64 k.major) ∧ W'.cell? ⟨w.heap.size, 1, none⟩ = some (.int .i64 k.minor) ∧ W'.cell? ⟨w.heap.size, 2, none⟩ = some (.slice k.eA k.ex.length k.eC)) → Below W'.heap.size W' W2 → (Below w5.heap.size w5 W2 ∧ W2.cell? ⟨w.heap.size, 0, none⟩ = some (.int .i64 k.major) ∧ W2.cell? ⟨w.heap.size, 1, none⟩ = some (.int .i64 k.minor) ∧ W2.cell? ⟨w.heap.size, 2, none⟩ = some (.slice k.eA k.ex.length k.eC)) from fun W' W2 ⟨b, a0, a1, a2⟩ hb =>
          have s := b.size
          ⟨b.trans (hb.mono s), (hb.cell (by simp; omega)).trans a0, (hb.cell (by simp; omega)).trans a1, (hb.cell (by simp; omega)).trans a2⟩)
        have HCB := Lib.hid (show ∀ W' : World, (Below w5.heap.size w5 W' ∧ W'.cell? ⟨w.heap.size, 0, none⟩ = some (.int .i64 k.major) ∧ W'.cell? ⟨w.heap.size, 1, none⟩ = some (.int .i64 k.minor) ∧ W'.cell? ⟨w.heap.size, 2, none⟩ = some (.slice k.eA k.ex.length k.eC)) → Below w.heap.size w W' from fun W' hc => bw5.trans (hc.1.mono (by omega)))
        have HCL := Lib.hid (show ∀ W' : World, (Below w5.heap.size w5 W' ∧ W'.cell? ⟨w.heap.size, 0, none⟩ = some (.int .i64 k.major) ∧ W'.cell? ⟨w.heap.size, 1, none⟩ = some (.int .i64 k.minor) ∧ W'.cell? ⟨w.heap.size, 2, none⟩ = some (.slice k.eA k.ex.length k.eC)) → Below w5.heap.size w5 W' from fun W' hc => hc.1)
        go_region_held3 (fun W' => Below w5.heap.size w5 W' ∧ W'.cell? ⟨w.heap.size, 0, none⟩ = some (.int .i64 k.major) ∧ W'.cell? ⟨w.heap.size, 1, none⟩ = some (.int .i64 k.minor) ∧ W'.cell? ⟨w.heap.size, 2, none⟩ = some (.slice k.eA k.ex.length k.eC)) (first | exact HC0.out | exact HCD.out _ (by assumption) | exact HCS.out _ _ (by assumption) (by assumption) | assumption) (first | (go_at_call 27; refine (resolveBegun_any _).mono ?_; rintro e wz ⟨rfl, hbz⟩) | (go_at_call 28; refine (cK.out _ (HCB.out _ (by assumption))).mono ?_; rintro e wz ⟨rfl, hbz⟩) | (go_at_call 29; refine (cR.out _ (HCB.out _ (by assumption))).mono ?_; rintro e wz ⟨rfl, hbz⟩) | (go_at_call 30; refine (cSI.out _ (HCL.out _ (by assumption))).mono ?_; rintro e wz ⟨rfl, hbz⟩))
        have hLast : Below w5.heap.size w5 wz := And.left (by assumption)
        clear HC0 HCD HCS HCB HCL
        go_wp2_with fail
        go_ret
        exact ⟨by simp, bw5.trans (hLast.mono (by omega))⟩
  · rw [if_pos t1] at hF hL
    have t1' : (placedErr k l == 0) = false := by simp [t1]
    clear t1 cO cS cI cM
    generalize placedErr k l = pe at *
    obtain rfl := hF
    obtain rfl := hL
    go_enter Try.func6, Try.ntmps6
    go_wp2_with (first | (go_at_call 21; refine (cF.out _ H0.out).mono ?_; rintro e w1 ⟨rfl, hw1⟩; obtain ⟨hcw1, hfw1⟩ := bcell hw1; have hsw1 := hw1.size; have hAw1 : w.heap.size + 1 + 1 < w1.heap.size := (by omega); have hBw1 : w.heap.size + 1 < w1.heap.size := (by omega); have hCw1 : w.heap.size < w1.heap.size := (by omega); have bw1 := H0.out.trans (hw1.mono (by omega))) | (go_at_call 22; refine (cA.out _ bw1).mono ?_; rintro e w2 ⟨⟨A2, c2, rfl, hr2⟩, hw2⟩; obtain ⟨hcw2, hfw2⟩ := bcell hw2; have hsw2 := hw2.size; have hAw2 : w.heap.size + 1 + 1 < w2.heap.size := (by omega); have hBw2 : w.heap.size + 1 < w2.heap.size := (by omega); have hCw2 : w.heap.size < w2.heap.size := (by omega); have bw2 := bw1.trans (hw2.mono (by omega))) | (go_at_call 23; refine (cC.out _ bw2).mono ?_; rintro e w3 ⟨rfl, hw3⟩; obtain ⟨hcw3, hfw3⟩ := bcell hw3; have hsw3 := hw3.size; have hAw3 : w.heap.size + 1 + 1 < w3.heap.size := (by omega); have hBw3 : w.heap.size + 1 < w3.heap.size := (by omega); have hCw3 : w.heap.size < w3.heap.size := (by omega); have bw3 := bw2.trans (hw3.mono (by omega))))
    have cSI := Lib.hid (fun W (hb : Below w3.heap.size w3 W) => (SameInts_any A2 none c2 0 [] [] W ((hr2.below hw3).below hb) Row.nil (by simp) (by simp)).mono fun _ _ h => (⟨h.1.trans (ret_bool (by simp)), h.2⟩ : _ = Ending.returned (.bool true) ∧ _))
    have hch := Lib.hid (((hw1.trans (hw2.mono (by omega))).trans (hw3.mono (by omega))))
    have j0 := (hch.out.cell (p := ⟨w.heap.size, 0, none⟩) (by simp; omega)).trans k0
    have j1 := (hch.out.cell (p := ⟨w.heap.size, 1, none⟩) (by simp; omega)).trans k1
    have j2 := (hch.out.cell (p := ⟨w.heap.size, 2, none⟩) (by simp; omega)).trans k2
    have HC0 := Lib.hid (show (Below w3.heap.size w3 w3 ∧ w3.cell? ⟨w.heap.size, 0, none⟩ = some (.int .i64 k.major) ∧ w3.cell? ⟨w.heap.size, 1, none⟩ = some (.int .i64 k.minor) ∧ w3.cell? ⟨w.heap.size, 2, none⟩ = some (.slice k.eA k.ex.length k.eC)) from ⟨Below.refl _ _, j0, j1, j2⟩)
    have HCD := Lib.hid (show ∀ W' : World, (Below w3.heap.size w3 W' ∧ W'.cell? ⟨w.heap.size, 0, none⟩ = some (.int .i64 k.major) ∧ W'.cell? ⟨w.heap.size, 1, none⟩ = some (.int .i64 k.minor) ∧ W'.cell? ⟨w.heap.size, 2, none⟩ = some (.slice k.eA k.ex.length k.eC)) → (Below w3.heap.size w3 W'.drew ∧ W'.drew.cell? ⟨w.heap.size, 0, none⟩ = some (.int .i64 k.major) ∧ W'.drew.cell? ⟨w.heap.size, 1, none⟩ = some (.int .i64 k.minor) ∧ W'.drew.cell? ⟨w.heap.size, 2, none⟩ = some (.slice k.eA k.ex.length k.eC)) from fun W' ⟨b, a0, a1, a2⟩ => ⟨b.drew, a0, a1, a2⟩)
    have HCS := Lib.hid (show ∀ W' W2 : World, (Below w3.heap.size w3 W' ∧ W'.cell? ⟨w.heap.size, 0, none⟩ = some (.int .i64 k.major) ∧ W'.cell? ⟨w.heap.size, 1, none⟩ = some (.int .i64 k.minor) ∧ W'.cell? ⟨w.heap.size, 2, none⟩ = some (.slice k.eA k.ex.length k.eC)) → Below W'.heap.size W' W2 → (Below w3.heap.size w3 W2 ∧ W2.cell? ⟨w.heap.size, 0, none⟩ = some (.int .i64 k.major) ∧ W2.cell? ⟨w.heap.size, 1, none⟩ = some (.int .i64 k.minor) ∧ W2.cell? ⟨w.heap.size, 2, none⟩ = some (.slice k.eA k.ex.length k.eC)) from fun W' W2 ⟨b, a0, a1, a2⟩ hb =>
      have s := b.size
      ⟨b.trans (hb.mono s), (hb.cell (by simp; omega)).trans a0, (hb.cell (by simp; omega)).trans a1, (hb.cell (by simp; omega)).trans a2⟩)
    have HCB := Lib.hid (show ∀ W' : World, (Below w3.heap.size w3 W' ∧ W'.cell? ⟨w.heap.size, 0, none⟩ = some (.int .i64 k.major) ∧ W'.cell? ⟨w.heap.size, 1, none⟩ = some (.int .i64 k.minor) ∧ W'.cell? ⟨w.heap.size, 2, none⟩ = some (.slice k.eA k.ex.length k.eC)) → Below w.heap.size w W' from fun W' hc => bw3.trans (hc.1.mono (by omega)))
    have HCL := Lib.hid (show ∀ W' : World, (Below w3.heap.size w3 W' ∧ W'.cell? ⟨w.heap.size, 0, none⟩ = some (.int .i64 k.major) ∧ W'.cell? ⟨w.heap.size, 1, none⟩ = some (.int .i64 k.minor) ∧ W'.cell? ⟨w.heap.size, 2, none⟩ = some (.slice k.eA k.ex.length k.eC)) → Below w3.heap.size w3 W' from fun W' hc => hc.1)
    go_region_held3 (fun W' => Below w3.heap.size w3 W' ∧ W'.cell? ⟨w.heap.size, 0, none⟩ = some (.int .i64 k.major) ∧ W'.cell? ⟨w.heap.size, 1, none⟩ = some (.int .i64 k.minor) ∧ W'.cell? ⟨w.heap.size, 2, none⟩ = some (.slice k.eA k.ex.length k.eC)) (first | exact HC0.out | exact HCD.out _ (by assumption) | exact HCS.out _ _ (by assumption) (by assumption) | assumption) (first | (go_at_call 27; refine (resolveBegun_any _).mono ?_; rintro e wz ⟨rfl, hbz⟩) | (go_at_call 28; refine (cK.out _ (HCB.out _ (by assumption))).mono ?_; rintro e wz ⟨rfl, hbz⟩) | (go_at_call 29; refine (cR.out _ (HCB.out _ (by assumption))).mono ?_; rintro e wz ⟨rfl, hbz⟩) | (go_at_call 30; refine (cSI.out _ (HCL.out _ (by assumption))).mono ?_; rintro e wz ⟨rfl, hbz⟩))
    have hLast : Below w3.heap.size w3 wz := And.left (by assumption)
    clear HC0 HCD HCS HCB HCL
    go_wp2_with fail
    go_ret
    exact ⟨by simp, bw3.trans (hLast.mono (by omega))⟩

set_option maxRecDepth 100000 in
theorem resolveTells_lifted (os : Os) (started : os.Started) (H : Type) (enc : TypeId × Value → H) :
    ReturnsInHanded {} Try.checked os 6 .any (Rows.resolveTellsSpec.pre6 enc Try.prog Try.f6 Rows.resolveTellsRow.domain false) (Rows.resolveTellsSpec.post enc Try.prog Try.f6 false true false false) := by
  refine returnsInHanded_of_change_sized (C := Try.checked) Try.own started (by kernel_rfl) Try.func6
    (ChangeSpec.witness6 (enc := enc) (C := Try.checked) false ⟨#[], #[.agg #[.int .i64 0, .int .i64 0, .slice none 0 0], .slice none 0 0, .agg #[.string ⟨#[]⟩, .string ⟨#[]⟩, .int .i64 0, .int .i64 0], .agg #[.string ⟨#[]⟩, .int .i64 0, .int .i64 0, .string ⟨#[]⟩, .slice none 0 0, .slice none 0 0, .slice none 0 0]], []⟩ 8 (by kernel_rfl) (by kernel_rfl) (by kernel_rfl) (by kernel_rfl)) ?_
  intro W base args ds gs before hval0 hW hcnd hsz0 _
  have hval : ∀ (j : Nat) t v, Try.f6.params[j]? = some t → args[j]? = some v → Value.okWide Try.prog W .any base t v := hval0
  have hsz : (DataW.weightsEach Try.prog (Try.f6.params.toList ++ Rows.resolveTellsSpec.plain.varTypes Try.prog) (ds ++ gs)).all (· ≤ reachBytes) = true := hsz0
  have hW' := hW
  obtain ⟨p, q, hA0, hV, rfl, hfz, hnd⟩ := hW
  have hA : DataW.TrodAll enc Try.prog W 0 (fun _ => true) true Try.f6.params.toList args.toList ds p := hA0
  rw [Try.params6] at hA hval hsz
  obtain ⟨v0, vs0, d0, ds0, p0, q0, hargs, rfl, rfl, h0, r0⟩ := trodAll_cons hA
  obtain ⟨v1, vs1, d1, ds1, p1, q1, rfl, rfl, rfl, h1, r1⟩ := trodAll_cons r0
  obtain ⟨v2, vs2, d2, ds2, p2, q2, rfl, rfl, rfl, h2, r2⟩ := trodAll_cons r1
  obtain ⟨v3, vs3, d3, ds3, p3, q3, rfl, rfl, rfl, h3, r3⟩ := trodAll_cons r2
  obtain ⟨rfl, rfl, rfl⟩ := trodAll_nil r3
  obtain rfl : args = #[v0, v1, v2, v3] := by cases args; simp_all
  obtain ⟨rfl, rfl⟩ := trodVars_none hV
  have ft0 := fits_each hsz (j := 0) rfl rfl
  obtain ⟨k, rfl, ok0⟩ := open_Kernel (hval 0 50 v0 rfl rfl) h0 ft0
  have ft1 := fits_each hsz (j := 1) rfl rfl
  obtain ⟨lA, l, lc, rfl, ok1⟩ := open_Placeds (hval 1 27 v1 rfl rfl) h1 ft1
  have ft2 := fits_each hsz (j := 2) rfl rfl
  obtain ⟨i, rfl, ok2⟩ := open_Import (hval 2 52 v2 rfl rfl) h2 ft2
  have ft3 := fits_each hsz (j := 3) rfl rfl
  obtain ⟨m, rfl, ok3⟩ := open_Module (hval 3 26 v3 rfl rfl) h3 ft3
  refine (ResolveTells_any k lA l lc i m W ok0 ok1 ok2 ok3).mono fun e W' ⟨he, hb⟩ => ?_
  subst he
  exact ⟨_, rfl, law_post Try.laidOut hW' rfl (by decide +kernel) rfl Try.underlying4 rfl rfl rfl hb⟩

theorem resolveTells_holds : Rows.ResolveTellsSaid :=
  OpenClaim.holds_of_wide 6 Try.f6 rfl rfl rfl rfl rfl rfl rfl ⟨rfl, rfl, rfl, rfl, rfl⟩ rfl rfl rfl rfl rfl (by kernel_rfl) Try.func6 (by kernel_rfl)
    (of_decide_eq_true (by kernel_rfl)) (by unfold Func.isWrapper; first | (rw [if_pos (by decide +kernel)]; kernel_rfl) | (rw [if_neg (by decide +kernel)]; exact ⟨rfl, rfl⟩))
    (fun os started H enc _ => resolveTells_lifted os started H enc)
#print axioms resolveTells_holds


end Go.Proofs.Ytdpacbdejfjkcaa
