import Derived.Test.YtogckcjcebckgaaGreatG15
import Derived.Test.YtogckcjcebckgaaGreatG11
import Derived.Test.YtogckcjcebckgaaGreatG08
/- CompactSteps: behind each step all is right, with the same modules in the same order; behind Pack one run is free, if any is; at most as many steps as modules. No condition. -/
namespace Go.Proofs.YtogckcjcebckgaaGreat
open Go.ChangeShapes Go.WideShapes Go.ChangeAt Go.RowKit Go.WideMaps Go.WideElems
open Go.ChangeMaps (setBlock shut_map_nil open_string shut_string keptBut_setBlock frozen?_setBlock heap_setBlock_same)

/-- what the loop over the steps keeps -/
structure StepsInv (w : World) (k : Krn) (l : List Plc) (q : Nat) (K : Krn) (A : Option Addr) (L : List Plc) (c : Nat) (W : World) : Prop where
  heap : W.heap[w.heap.size]? = some (.cells #[.int .i64 K.major, .int .i64 K.minor, .slice K.eA K.ex.length K.eC, .slice A L.length c] 39 (0, 0))
  there : RgThere W K A L
  kern : K.bare = k.bare
  ok : rgErr K L = 0
  len : L.length = l.length
  pack : bares (packL 0 L).1 = bares (packL 0 l).1 ∧ (packL 0 L).2 + q = (packL 0 l).2

set_option maxRecDepth 100000 in
set_option maxHeartbeats 8000000 in
theorem CompactSteps_any (k : Krn) (A : Option Addr) (l : List Plc) (c : Nat) (w : World) (hk : k.ok w) (h : PlsOk w A l) :
    Calls Tryz.prog 5 #[.agg #[.int .i64 k.major, .int .i64 k.minor, .slice k.eA k.ex.length k.eC, .slice A l.length c]] w fun e w' => e = .returned (.bool true) ∧ Below w.heap.size w w' := by
  obtain ⟨w0, hw0⟩ : ∃ w0, w0 = w.alloc (.cells #[.int .i64 k.major, .int .i64 k.minor, .slice k.eA k.ex.length k.eC, .slice A l.length c] 39) := ⟨_, rfl⟩
  obtain ⟨g0, g1, g2, g3, hz, hb0⟩ := box4 hw0
  have HR0 := Lib.hid (show w0.heap[w.heap.size]? = some (.cells #[.int .i64 k.major, .int .i64 k.minor, .slice k.eA k.ex.length k.eC, .slice A l.length c] 39 (0, 0)) by rw [hw0]; exact heap_alloc_new w _)
  have H0 := Lib.hid hb0
  have hw0' := hw0.symm
  have c1 := Lib.hid (fun W (hb : Below w.heap.size w W) => CPack_any k A c l W (hk.below hb) (h.below hb))
  have HRW := Lib.hid (show ∀ W, Below w.heap.size w W → RgThere W k A l from fun W hb => ⟨hk.below hb, h.below hb⟩)
  obtain ⟨E, hE⟩ : ∃ E, E = rgErr k l := ⟨_, rfl⟩
  have HE := Lib.hid hE
  rw [← hE] at c1
  have hmP := Lib.hid (pack_mods (l := l) (a := 0))
  have HU := Lib.hid (there_of (E := E) hk h)
  clear hw0 hb0 hz h hk hE
  go_enter Tryz.func5, Tryz.ntmps5
  go_wp2_with fail
  refine (compactBegun_any _).mono ?_; rintro e w1 ⟨rfl, hb1⟩
  go_wp2_with fail
  refine (registryBegun_any _).mono ?_; rintro e w2 ⟨rfl, hb2⟩
  go_wp2_with fail
  refine (regionBegun_any _).mono ?_; rintro e w3 ⟨rfl, hb3⟩
  have hb03 := (hb1.trans (hb2.mono hb1.size)).trans (hb3.mono (Nat.le_trans hb1.size hb2.size))
  have HB3 := Lib.hid (H0.out.trans (hb03.mono H0.out.size))
  have HR3 := Lib.hid (blk' hb03 HR0.out)
  obtain ⟨_, a0, a1, a2, a3, _⟩ := rgcells HR3.out
  clear hb1 hb2 hb3 hb03 g0 g1 g2 g3
  go_wp2_with fail
  refine (c1.out _ HB3.out).mono ?_; rintro e w4 ⟨⟨n, k4, A4, l4, n4, rfl, hn, hrg⟩, hb4⟩
  have h4 := HU.out _ _ _ _ _ _ _ hmP.out hrg
  have HN := Lib.hid hn
  obtain ⟨w5, hw5⟩ : ∃ w5, w5 = w4.alloc (.cells #[.int .i64 k4.major, .int .i64 k4.minor, .slice k4.eA k4.ex.length k4.eC, .slice A4 l4.length n4] 39) := ⟨_, rfl⟩
  have hb5 : Below w4.heap.size w4 w5 := hw5 ▸ (Below.refl _ _).alloc (Nat.le_refl _) _
  have HC5 := Lib.hid (show w5.heap[w4.heap.size]? = some (.cells #[.int .i64 k4.major, .int .i64 k4.minor, .slice k4.eA k4.ex.length k4.eC, .slice A4 l4.length n4] 39 (0, 0)) by rw [hw5]; exact heap_alloc_new w4 _)
  have HB5 := Lib.hid ((HB3.out.trans (hb4.mono HB3.out.size)).trans (hb5.mono (Nat.le_trans HB3.out.size hb4.size)))
  have HR5 := Lib.hid (blk' hb5 (blk' hb4 HR3.out))
  have HT5 := Lib.hid (h4.1.below hb5)
  have HS4 := Lib.hid h4.2
  have HLT := Lib.hid (show w.heap.size < w4.heap.size from Nat.lt_of_lt_of_le (Array.getElem?_eq_some_iff.1 HR3.out).1 hb4.size)
  obtain ⟨_, b0, b1, b2, b3, _⟩ := rgcells HR5.out
  obtain ⟨_, d0, d1, d2, d3, _⟩ := rgcells HC5.out
  have hw5' := hw5.symm
  clear hrg hb4 hw5 hb5 h4 hn a0 a1 a2 a3
  by_cases t : E = 0
  · obtain ⟨q1, q2⟩ := HS4.out.1 t
    have HQ := Lib.hid (And.intro q1 q2)
    have HRG := Lib.hid (HE.out.symm.trans t)
    obtain ⟨f1, f2, f3, f4⟩ := rg_facts HRG.out
    have HF2 := Lib.hid f2
    have hn2 : n = (packL 0 l).2 := by have := HN.out; rwa [if_neg (by simp [t])] at this
    have hnl : n ≤ l.length := by rw [hn2]; exact pack_le
    have hn9 : ¬ (l.length : Int) < n := by omega
    have hnd : decide (l.length < n) = false := decide_eq_false (by omega)
    have hnd2 : decide ((l.length : Int) < n) = false := decide_eq_false (by omega)
    have HN2 := Lib.hid hn2
    have HPR := Lib.hid (packed_runs f2 q2)
    have HPF := Lib.hid (packed_facts HRG.out q1 q2)
    have HI0 := Lib.hid (show StepsInv w k l 0 k A l c w5 from ⟨HR5.out, HRW.out _ HB5.out, rfl, HRG.out, rfl, rfl, by omega⟩)
    subst t
    clear q1 q2 f1 f2 f4 hn2
    go_wp2_with fail
    go_loopw [6] (fun i wr => ∃ (q : Nat) (K : Krn) (A' : Option Addr) (L : List Plc) (c' : Nat), q ≤ n ∧ i = .int .i64 q ∧ StepsInv w k l q K A' L c' wr ∧ wr.heap[w4.heap.size]? = some (.cells #[.int .i64 k4.major, .int .i64 k4.minor, .slice k4.eA k4.ex.length k4.eC, .slice A4 l4.length n4] 39 (0, 0)) ∧ RgThere wr k4 A4 l4 ∧ Below w.heap.size w wr) (fun i _ => n - (intOf i).toNat)
    case atStart => exact ⟨0, k, A, l, c, Nat.zero_le _, rfl, HI0.out, HC5.out, HT5.out, HB5.out⟩
    case round =>
      obtain ⟨q, K, A', L, c', hq, rfl, hI, hC, hT, hb⟩ := hrel
      have HI := Lib.hid hI
      have HCR := Lib.hid hC
      have HTR := Lib.hid hT
      have HB := Lib.hid hb
      have hq8 : q ≤ 8 := by omega
      obtain ⟨f1, f2, f3, f4⟩ := rg_facts hI.ok
      have HM := Lib.hid f1
      have H16 := Lib.hid f2
      have cS := Lib.hid (CStep_any K A' c' L wr hI.there.1 hI.there.2)
      obtain ⟨_, r0, r1, r2, r3, _⟩ := rgcells hI.heap
      have hpk := hI.pack.2
      have hok := hI.ok
      clear hC hT hb f1 f2 f4
      by_cases hlt : q < n
      · have hlt' : (q : Int) < n := by omega
        cases hst : stepL 0 L with
        | none =>
          exfalso
          have := step_none H16.out hst
          rw [this] at hpk
          have := HN2.out
          simp only at hpk
          omega
        | some L' =>
          obtain ⟨s1, s2⟩ := step_some H16.out hst
          have hms := step_mods hst
          have HMS := Lib.hid hms
          have HFI := Lib.hid (step_first H16.out hst)
          have HS2 := Lib.hid s2
          have HS1 := Lib.hid s1
          rw [hok, hst] at cS
          clear hI s1 s2 hst hpk hok hms
          go_wp2_with fail
          refine (cS.out).mono ?_; rintro e w6 ⟨⟨k6, A6, l6, n6, rfl, hrg⟩, hb6⟩
          have h6 := RgIs.okAll hrg HI.out.there.1 HI.out.there.2 (by rw [wL0]; exact HMS.out)
          have hkern : k6.bare = K.bare := hrg.kern
          have hmods : bares l6 = bares L' := hrg.mods
          obtain ⟨w7, hw7⟩ : ∃ w7, w7 = w6.alloc (.cells #[.int .i64 k6.major, .int .i64 k6.minor, .slice k6.eA k6.ex.length k6.eC, .slice A6 l6.length n6] 39) := ⟨_, rfl⟩
          have hb7 : Below w6.heap.size w6 w7 := hw7 ▸ (Below.refl _ _).alloc (Nat.le_refl _) _
          have HX7 := Lib.hid (show w7.heap[w6.heap.size]? = some (.cells #[.int .i64 k6.major, .int .i64 k6.minor, .slice k6.eA k6.ex.length k6.eC, .slice A6 l6.length n6] 39 (0, 0)) by rw [hw7]; exact heap_alloc_new w6 _)
          have hb67 := hb6.trans (hb7.mono hb6.size)
          have HT7 := Lib.hid (show RgThere w7 k6 A6 l6 from RgThere.below h6 hb7)
          have HC7 := Lib.hid (blk' hb67 HCR.out)
          have HU7 := Lib.hid (HTR.out.below hb67)
          have HR7 := Lib.hid (blk' hb67 HI.out.heap)
          have HV7 := Lib.hid (HI.out.there.below hb67)
          have HB7 := Lib.hid (HB.out.trans (hb67.mono HB.out.size))
          have HLT7 := Lib.hid (show w.heap.size < w6.heap.size from Nat.lt_of_lt_of_le (Array.getElem?_eq_some_iff.1 HI.out.heap).1 hb6.size)
          have hrg6 : rgErr k6 l6 = 0 := by rw [rgErr_like hkern hmods]; exact rgErr_moved HI.out.ok HMS.out.symm HS1.out
          have hl6 : l6.length = L.length := by have := len_like hmods; have := len_mods HMS.out; omega
          have c2 := Lib.hid (RegCheck_any k6 A6 n6 l6 w7 HT7.out.1 HT7.out.2)
          rw [hrg6] at c2
          have HRG6 := Lib.hid hrg6
          have HK6 := Lib.hid hkern
          have HM6 := Lib.hid hmods
          have HL6 := Lib.hid hl6
          obtain ⟨_, x0, x1, x2, x3, _⟩ := rgcells HX7.out
          have hw7' := hw7.symm
          clear hrg h6 hkern hmods hw7 hb6 hb7 hb67 hrg6 hl6 r0 r1 r2 r3
          go_wp2_with fail
          refine (c2.out).mono ?_; rintro e w8 ⟨rfl, hb8⟩
          have HX8 := Lib.hid (blk' hb8 HX7.out)
          have HR8 := Lib.hid (blk' hb8 HR7.out)
          have HC8 := Lib.hid (blk' hb8 HC7.out)
          have HT8 := Lib.hid (HT7.out.below hb8)
          have HU8 := Lib.hid (HU7.out.below hb8)
          have HV8 := Lib.hid (HV7.out.below hb8)
          have HB8 := Lib.hid (HB7.out.trans (hb8.mono HB7.out.size))
          obtain ⟨_, _, _, _, y3, _⟩ := rgcells HX8.out
          obtain ⟨_, _, _, _, z3, _⟩ := rgcells HR8.out
          have hl6 := HL6.out
          clear hb8 x0 x1 x2 x3 c2 cS
          go_wp2_with fail
          go_loopw [10] (fun i wz => ∃ p : Nat, p ≤ l6.length ∧ i = .int .i64 p ∧ Below w8.heap.size w8 wz) (fun i _ => l6.length - (intOf i).toNat)
          case atStart => exact ⟨0, by omega, rfl, Below.refl _ _⟩
          case round =>
            obtain ⟨p, hp, rfl, hbz⟩ := hrel
            have HBZ := Lib.hid hbz
            have hXz := blk' hbz HX8.out
            have hRz := blk' hbz HR8.out
            obtain ⟨HXZ, x0, x1, x2, x3, _⟩ := rgcells hXz
            obtain ⟨HRZ, r0, r1, r2, r3, rf0, rf1, rf2, rf3⟩ := rgcells hRz
            have hxz := (Array.getElem?_eq_some_iff.1 hXz).1
            have hrz := (Array.getElem?_eq_some_iff.1 hRz).1
            clear hXz hRz y3 z3
            by_cases hlp : p < l6.length
            · have hlp' : (p : Int) < l6.length := by omega
              have hlp2 : p < L.length := by omega
              have hlp3 : p < L'.length := by have := len_mods HMS.out; omega
              obtain ⟨ad, rfl, hab, p0, p1, p2, p3, p4, p5, p6, p7⟩ := plc_at HT8.out.2.row hbz p hlp
              obtain ⟨bd, rfl, hbb, q0, q1, q2, q3, q4, q5, q6, q7⟩ := plc_at HV8.out.2.row hbz p hlp2
              have hx := HT8.out.2.each l6[p] (List.getElem_mem _)
              have hx' := HV8.out.2.each L[p] (List.getElem_mem _)
              have e1 : (l6[p]'hlp).bare = (L'[p]'hlp3).bare := by
                have e : (bares l6)[p]'(by simpa using hlp) = (bares L')[p]'(by simpa using hlp3) := by simp only [HM6.out]
                simpa only [List.getElem_map] using e
              have e2 : (L'[p]'hlp3).m = (L[p]'hlp2).m := by
                have := at_mods HMS.out p
                rw [List.getElem?_eq_getElem hlp3, List.getElem?_eq_getElem hlp2] at this
                exact Option.some.inj this
              have e3 : (l6[p]'hlp).first ≤ (L[p]'hlp2).first := by
                have h1 := HFI.out p hlp2 hlp3
                have h2 : (l6[p]'hlp).first = (L'[p]'hlp3).first := by have := congrArg Plc.first e1; exact this
                omega
              have e4 : SameC (l6[p]'hlp).m (L[p]'hlp2).m := bare_sameC (by rw [← e2]; exact congrArg Plc.m e1)
              obtain ⟨y, hy⟩ : ∃ y, y = l6[p]'hlp := ⟨_, rfl⟩
              obtain ⟨z, hz⟩ : ∃ z, z = L[p]'hlp2 := ⟨_, rfl⟩
              simp only [← hy, ← hz] at e3 e4 p0 p1 p2 p3 p4 p5 p6 p7 q0 q1 q2 q3 q4 q5 q6 q7 hx hx'
              have cM := Lib.hid (fun W (hb : Below w8.heap.size w8 W) => SameModule_any y.m z.m W e4 (hx.below hb) (hx'.below hb))
              have habz : (ad.add (p * 8)).block < wr.heap.size := by rw [block_of_add]; have := hbz.size; omega
              have hbbz : (bd.add (p * 8)).block < wr.heap.size := by rw [block_of_add]; have := hbz.size; omega
              have hgt : ¬ z.first < y.first := by omega
              have hlp4 : (p : Int) < L.length := by omega
              clear e1 e2 e3 e4 hx hx' hy hz hbz
              have HC0 := Lib.hid (show Below wr.heap.size wr wr ∧ wr.cell? ⟨w6.heap.size, 3, none⟩ = some (.slice (some ad) l6.length n6) ∧ wr.cell? ⟨w.heap.size, 3, none⟩ = some (.slice (some bd) L.length c') ∧ wr.cell? (ad.add (p * 8)) = some (.string y.m.name) ∧ wr.cell? ⟨(ad.add (p * 8)).block, (ad.add (p * 8)).off + 1, none⟩ = some (.int .i64 y.m.major) ∧ wr.cell? ⟨(ad.add (p * 8)).block, (ad.add (p * 8)).off + 2, none⟩ = some (.int .i64 y.m.minor) ∧ wr.cell? ⟨(ad.add (p * 8)).block, (ad.add (p * 8)).off + 3, none⟩ = some (.string y.m.text) ∧ wr.cell? ⟨(ad.add (p * 8)).block, (ad.add (p * 8)).off + 4, none⟩ = some (.slice y.m.eA y.m.ex.length y.m.eC) ∧ wr.cell? ⟨(ad.add (p * 8)).block, (ad.add (p * 8)).off + 5, none⟩ = some (.slice y.m.iA y.m.im.length y.m.iC) ∧ wr.cell? ⟨(ad.add (p * 8)).block, (ad.add (p * 8)).off + 6, none⟩ = some (.slice y.m.pA y.m.pa.length y.m.pC) ∧ wr.cell? ⟨(ad.add (p * 8)).block, (ad.add (p * 8)).off + 7, none⟩ = some (.int .i64 y.first) ∧ wr.cell? (bd.add (p * 8)) = some (.string z.m.name) ∧ wr.cell? ⟨(bd.add (p * 8)).block, (bd.add (p * 8)).off + 1, none⟩ = some (.int .i64 z.m.major) ∧ wr.cell? ⟨(bd.add (p * 8)).block, (bd.add (p * 8)).off + 2, none⟩ = some (.int .i64 z.m.minor) ∧ wr.cell? ⟨(bd.add (p * 8)).block, (bd.add (p * 8)).off + 3, none⟩ = some (.string z.m.text) ∧ wr.cell? ⟨(bd.add (p * 8)).block, (bd.add (p * 8)).off + 4, none⟩ = some (.slice z.m.eA z.m.ex.length z.m.eC) ∧ wr.cell? ⟨(bd.add (p * 8)).block, (bd.add (p * 8)).off + 5, none⟩ = some (.slice z.m.iA z.m.im.length z.m.iC) ∧ wr.cell? ⟨(bd.add (p * 8)).block, (bd.add (p * 8)).off + 6, none⟩ = some (.slice z.m.pA z.m.pa.length z.m.pC) ∧ wr.cell? ⟨(bd.add (p * 8)).block, (bd.add (p * 8)).off + 7, none⟩ = some (.int .i64 z.first) from ⟨Below.refl _ _, by assumption, by assumption, by assumption, by assumption, by assumption, by assumption, by assumption, by assumption, by assumption, by assumption, by assumption, by assumption, by assumption, by assumption, by assumption, by assumption, by assumption, by assumption⟩)
              have HCD := Lib.hid (show ∀ W' : World, (Below wr.heap.size wr W' ∧ W'.cell? ⟨w6.heap.size, 3, none⟩ = some (.slice (some ad) l6.length n6) ∧ W'.cell? ⟨w.heap.size, 3, none⟩ = some (.slice (some bd) L.length c') ∧ W'.cell? (ad.add (p * 8)) = some (.string y.m.name) ∧ W'.cell? ⟨(ad.add (p * 8)).block, (ad.add (p * 8)).off + 1, none⟩ = some (.int .i64 y.m.major) ∧ W'.cell? ⟨(ad.add (p * 8)).block, (ad.add (p * 8)).off + 2, none⟩ = some (.int .i64 y.m.minor) ∧ W'.cell? ⟨(ad.add (p * 8)).block, (ad.add (p * 8)).off + 3, none⟩ = some (.string y.m.text) ∧ W'.cell? ⟨(ad.add (p * 8)).block, (ad.add (p * 8)).off + 4, none⟩ = some (.slice y.m.eA y.m.ex.length y.m.eC) ∧ W'.cell? ⟨(ad.add (p * 8)).block, (ad.add (p * 8)).off + 5, none⟩ = some (.slice y.m.iA y.m.im.length y.m.iC) ∧ W'.cell? ⟨(ad.add (p * 8)).block, (ad.add (p * 8)).off + 6, none⟩ = some (.slice y.m.pA y.m.pa.length y.m.pC) ∧ W'.cell? ⟨(ad.add (p * 8)).block, (ad.add (p * 8)).off + 7, none⟩ = some (.int .i64 y.first) ∧ W'.cell? (bd.add (p * 8)) = some (.string z.m.name) ∧ W'.cell? ⟨(bd.add (p * 8)).block, (bd.add (p * 8)).off + 1, none⟩ = some (.int .i64 z.m.major) ∧ W'.cell? ⟨(bd.add (p * 8)).block, (bd.add (p * 8)).off + 2, none⟩ = some (.int .i64 z.m.minor) ∧ W'.cell? ⟨(bd.add (p * 8)).block, (bd.add (p * 8)).off + 3, none⟩ = some (.string z.m.text) ∧ W'.cell? ⟨(bd.add (p * 8)).block, (bd.add (p * 8)).off + 4, none⟩ = some (.slice z.m.eA z.m.ex.length z.m.eC) ∧ W'.cell? ⟨(bd.add (p * 8)).block, (bd.add (p * 8)).off + 5, none⟩ = some (.slice z.m.iA z.m.im.length z.m.iC) ∧ W'.cell? ⟨(bd.add (p * 8)).block, (bd.add (p * 8)).off + 6, none⟩ = some (.slice z.m.pA z.m.pa.length z.m.pC) ∧ W'.cell? ⟨(bd.add (p * 8)).block, (bd.add (p * 8)).off + 7, none⟩ = some (.int .i64 z.first)) → (Below wr.heap.size wr W'.drew ∧ W'.drew.cell? ⟨w6.heap.size, 3, none⟩ = some (.slice (some ad) l6.length n6) ∧ W'.drew.cell? ⟨w.heap.size, 3, none⟩ = some (.slice (some bd) L.length c') ∧ W'.drew.cell? (ad.add (p * 8)) = some (.string y.m.name) ∧ W'.drew.cell? ⟨(ad.add (p * 8)).block, (ad.add (p * 8)).off + 1, none⟩ = some (.int .i64 y.m.major) ∧ W'.drew.cell? ⟨(ad.add (p * 8)).block, (ad.add (p * 8)).off + 2, none⟩ = some (.int .i64 y.m.minor) ∧ W'.drew.cell? ⟨(ad.add (p * 8)).block, (ad.add (p * 8)).off + 3, none⟩ = some (.string y.m.text) ∧ W'.drew.cell? ⟨(ad.add (p * 8)).block, (ad.add (p * 8)).off + 4, none⟩ = some (.slice y.m.eA y.m.ex.length y.m.eC) ∧ W'.drew.cell? ⟨(ad.add (p * 8)).block, (ad.add (p * 8)).off + 5, none⟩ = some (.slice y.m.iA y.m.im.length y.m.iC) ∧ W'.drew.cell? ⟨(ad.add (p * 8)).block, (ad.add (p * 8)).off + 6, none⟩ = some (.slice y.m.pA y.m.pa.length y.m.pC) ∧ W'.drew.cell? ⟨(ad.add (p * 8)).block, (ad.add (p * 8)).off + 7, none⟩ = some (.int .i64 y.first) ∧ W'.drew.cell? (bd.add (p * 8)) = some (.string z.m.name) ∧ W'.drew.cell? ⟨(bd.add (p * 8)).block, (bd.add (p * 8)).off + 1, none⟩ = some (.int .i64 z.m.major) ∧ W'.drew.cell? ⟨(bd.add (p * 8)).block, (bd.add (p * 8)).off + 2, none⟩ = some (.int .i64 z.m.minor) ∧ W'.drew.cell? ⟨(bd.add (p * 8)).block, (bd.add (p * 8)).off + 3, none⟩ = some (.string z.m.text) ∧ W'.drew.cell? ⟨(bd.add (p * 8)).block, (bd.add (p * 8)).off + 4, none⟩ = some (.slice z.m.eA z.m.ex.length z.m.eC) ∧ W'.drew.cell? ⟨(bd.add (p * 8)).block, (bd.add (p * 8)).off + 5, none⟩ = some (.slice z.m.iA z.m.im.length z.m.iC) ∧ W'.drew.cell? ⟨(bd.add (p * 8)).block, (bd.add (p * 8)).off + 6, none⟩ = some (.slice z.m.pA z.m.pa.length z.m.pC) ∧ W'.drew.cell? ⟨(bd.add (p * 8)).block, (bd.add (p * 8)).off + 7, none⟩ = some (.int .i64 z.first)) from fun W' ⟨b, a0, a1, a2, a3, a4, a5, a6, a7, a8, a9, a10, a11, a12, a13, a14, a15, a16, a17⟩ => ⟨b.drew, a0, a1, a2, a3, a4, a5, a6, a7, a8, a9, a10, a11, a12, a13, a14, a15, a16, a17⟩)
              have HCS := Lib.hid (show ∀ W' W2 : World, (Below wr.heap.size wr W' ∧ W'.cell? ⟨w6.heap.size, 3, none⟩ = some (.slice (some ad) l6.length n6) ∧ W'.cell? ⟨w.heap.size, 3, none⟩ = some (.slice (some bd) L.length c') ∧ W'.cell? (ad.add (p * 8)) = some (.string y.m.name) ∧ W'.cell? ⟨(ad.add (p * 8)).block, (ad.add (p * 8)).off + 1, none⟩ = some (.int .i64 y.m.major) ∧ W'.cell? ⟨(ad.add (p * 8)).block, (ad.add (p * 8)).off + 2, none⟩ = some (.int .i64 y.m.minor) ∧ W'.cell? ⟨(ad.add (p * 8)).block, (ad.add (p * 8)).off + 3, none⟩ = some (.string y.m.text) ∧ W'.cell? ⟨(ad.add (p * 8)).block, (ad.add (p * 8)).off + 4, none⟩ = some (.slice y.m.eA y.m.ex.length y.m.eC) ∧ W'.cell? ⟨(ad.add (p * 8)).block, (ad.add (p * 8)).off + 5, none⟩ = some (.slice y.m.iA y.m.im.length y.m.iC) ∧ W'.cell? ⟨(ad.add (p * 8)).block, (ad.add (p * 8)).off + 6, none⟩ = some (.slice y.m.pA y.m.pa.length y.m.pC) ∧ W'.cell? ⟨(ad.add (p * 8)).block, (ad.add (p * 8)).off + 7, none⟩ = some (.int .i64 y.first) ∧ W'.cell? (bd.add (p * 8)) = some (.string z.m.name) ∧ W'.cell? ⟨(bd.add (p * 8)).block, (bd.add (p * 8)).off + 1, none⟩ = some (.int .i64 z.m.major) ∧ W'.cell? ⟨(bd.add (p * 8)).block, (bd.add (p * 8)).off + 2, none⟩ = some (.int .i64 z.m.minor) ∧ W'.cell? ⟨(bd.add (p * 8)).block, (bd.add (p * 8)).off + 3, none⟩ = some (.string z.m.text) ∧ W'.cell? ⟨(bd.add (p * 8)).block, (bd.add (p * 8)).off + 4, none⟩ = some (.slice z.m.eA z.m.ex.length z.m.eC) ∧ W'.cell? ⟨(bd.add (p * 8)).block, (bd.add (p * 8)).off + 5, none⟩ = some (.slice z.m.iA z.m.im.length z.m.iC) ∧ W'.cell? ⟨(bd.add (p * 8)).block, (bd.add (p * 8)).off + 6, none⟩ = some (.slice z.m.pA z.m.pa.length z.m.pC) ∧ W'.cell? ⟨(bd.add (p * 8)).block, (bd.add (p * 8)).off + 7, none⟩ = some (.int .i64 z.first)) → Below W'.heap.size W' W2 → (Below wr.heap.size wr W2 ∧ W2.cell? ⟨w6.heap.size, 3, none⟩ = some (.slice (some ad) l6.length n6) ∧ W2.cell? ⟨w.heap.size, 3, none⟩ = some (.slice (some bd) L.length c') ∧ W2.cell? (ad.add (p * 8)) = some (.string y.m.name) ∧ W2.cell? ⟨(ad.add (p * 8)).block, (ad.add (p * 8)).off + 1, none⟩ = some (.int .i64 y.m.major) ∧ W2.cell? ⟨(ad.add (p * 8)).block, (ad.add (p * 8)).off + 2, none⟩ = some (.int .i64 y.m.minor) ∧ W2.cell? ⟨(ad.add (p * 8)).block, (ad.add (p * 8)).off + 3, none⟩ = some (.string y.m.text) ∧ W2.cell? ⟨(ad.add (p * 8)).block, (ad.add (p * 8)).off + 4, none⟩ = some (.slice y.m.eA y.m.ex.length y.m.eC) ∧ W2.cell? ⟨(ad.add (p * 8)).block, (ad.add (p * 8)).off + 5, none⟩ = some (.slice y.m.iA y.m.im.length y.m.iC) ∧ W2.cell? ⟨(ad.add (p * 8)).block, (ad.add (p * 8)).off + 6, none⟩ = some (.slice y.m.pA y.m.pa.length y.m.pC) ∧ W2.cell? ⟨(ad.add (p * 8)).block, (ad.add (p * 8)).off + 7, none⟩ = some (.int .i64 y.first) ∧ W2.cell? (bd.add (p * 8)) = some (.string z.m.name) ∧ W2.cell? ⟨(bd.add (p * 8)).block, (bd.add (p * 8)).off + 1, none⟩ = some (.int .i64 z.m.major) ∧ W2.cell? ⟨(bd.add (p * 8)).block, (bd.add (p * 8)).off + 2, none⟩ = some (.int .i64 z.m.minor) ∧ W2.cell? ⟨(bd.add (p * 8)).block, (bd.add (p * 8)).off + 3, none⟩ = some (.string z.m.text) ∧ W2.cell? ⟨(bd.add (p * 8)).block, (bd.add (p * 8)).off + 4, none⟩ = some (.slice z.m.eA z.m.ex.length z.m.eC) ∧ W2.cell? ⟨(bd.add (p * 8)).block, (bd.add (p * 8)).off + 5, none⟩ = some (.slice z.m.iA z.m.im.length z.m.iC) ∧ W2.cell? ⟨(bd.add (p * 8)).block, (bd.add (p * 8)).off + 6, none⟩ = some (.slice z.m.pA z.m.pa.length z.m.pC) ∧ W2.cell? ⟨(bd.add (p * 8)).block, (bd.add (p * 8)).off + 7, none⟩ = some (.int .i64 z.first)) from fun W' W2 ⟨b, a0, a1, a2, a3, a4, a5, a6, a7, a8, a9, a10, a11, a12, a13, a14, a15, a16, a17⟩ hb => have s := b.size; ⟨b.trans (hb.mono s), (hb.cell (by first | omega | (simp; omega) | (simp only [block_of_add]; omega))).trans a0, (hb.cell (by first | omega | (simp; omega) | (simp only [block_of_add]; omega))).trans a1, (hb.cell (by first | omega | (simp; omega) | (simp only [block_of_add]; omega))).trans a2, (hb.cell (by first | omega | (simp; omega) | (simp only [block_of_add]; omega))).trans a3, (hb.cell (by first | omega | (simp; omega) | (simp only [block_of_add]; omega))).trans a4, (hb.cell (by first | omega | (simp; omega) | (simp only [block_of_add]; omega))).trans a5, (hb.cell (by first | omega | (simp; omega) | (simp only [block_of_add]; omega))).trans a6, (hb.cell (by first | omega | (simp; omega) | (simp only [block_of_add]; omega))).trans a7, (hb.cell (by first | omega | (simp; omega) | (simp only [block_of_add]; omega))).trans a8, (hb.cell (by first | omega | (simp; omega) | (simp only [block_of_add]; omega))).trans a9, (hb.cell (by first | omega | (simp; omega) | (simp only [block_of_add]; omega))).trans a10, (hb.cell (by first | omega | (simp; omega) | (simp only [block_of_add]; omega))).trans a11, (hb.cell (by first | omega | (simp; omega) | (simp only [block_of_add]; omega))).trans a12, (hb.cell (by first | omega | (simp; omega) | (simp only [block_of_add]; omega))).trans a13, (hb.cell (by first | omega | (simp; omega) | (simp only [block_of_add]; omega))).trans a14, (hb.cell (by first | omega | (simp; omega) | (simp only [block_of_add]; omega))).trans a15, (hb.cell (by first | omega | (simp; omega) | (simp only [block_of_add]; omega))).trans a16, (hb.cell (by first | omega | (simp; omega) | (simp only [block_of_add]; omega))).trans a17⟩)
              have HCA := Lib.hid (show ∀ (W' : World) (o : Obj), (Below wr.heap.size wr W' ∧ W'.cell? ⟨w6.heap.size, 3, none⟩ = some (.slice (some ad) l6.length n6) ∧ W'.cell? ⟨w.heap.size, 3, none⟩ = some (.slice (some bd) L.length c') ∧ W'.cell? (ad.add (p * 8)) = some (.string y.m.name) ∧ W'.cell? ⟨(ad.add (p * 8)).block, (ad.add (p * 8)).off + 1, none⟩ = some (.int .i64 y.m.major) ∧ W'.cell? ⟨(ad.add (p * 8)).block, (ad.add (p * 8)).off + 2, none⟩ = some (.int .i64 y.m.minor) ∧ W'.cell? ⟨(ad.add (p * 8)).block, (ad.add (p * 8)).off + 3, none⟩ = some (.string y.m.text) ∧ W'.cell? ⟨(ad.add (p * 8)).block, (ad.add (p * 8)).off + 4, none⟩ = some (.slice y.m.eA y.m.ex.length y.m.eC) ∧ W'.cell? ⟨(ad.add (p * 8)).block, (ad.add (p * 8)).off + 5, none⟩ = some (.slice y.m.iA y.m.im.length y.m.iC) ∧ W'.cell? ⟨(ad.add (p * 8)).block, (ad.add (p * 8)).off + 6, none⟩ = some (.slice y.m.pA y.m.pa.length y.m.pC) ∧ W'.cell? ⟨(ad.add (p * 8)).block, (ad.add (p * 8)).off + 7, none⟩ = some (.int .i64 y.first) ∧ W'.cell? (bd.add (p * 8)) = some (.string z.m.name) ∧ W'.cell? ⟨(bd.add (p * 8)).block, (bd.add (p * 8)).off + 1, none⟩ = some (.int .i64 z.m.major) ∧ W'.cell? ⟨(bd.add (p * 8)).block, (bd.add (p * 8)).off + 2, none⟩ = some (.int .i64 z.m.minor) ∧ W'.cell? ⟨(bd.add (p * 8)).block, (bd.add (p * 8)).off + 3, none⟩ = some (.string z.m.text) ∧ W'.cell? ⟨(bd.add (p * 8)).block, (bd.add (p * 8)).off + 4, none⟩ = some (.slice z.m.eA z.m.ex.length z.m.eC) ∧ W'.cell? ⟨(bd.add (p * 8)).block, (bd.add (p * 8)).off + 5, none⟩ = some (.slice z.m.iA z.m.im.length z.m.iC) ∧ W'.cell? ⟨(bd.add (p * 8)).block, (bd.add (p * 8)).off + 6, none⟩ = some (.slice z.m.pA z.m.pa.length z.m.pC) ∧ W'.cell? ⟨(bd.add (p * 8)).block, (bd.add (p * 8)).off + 7, none⟩ = some (.int .i64 z.first)) → (Below wr.heap.size wr (W'.alloc o) ∧ (W'.alloc o).cell? ⟨w6.heap.size, 3, none⟩ = some (.slice (some ad) l6.length n6) ∧ (W'.alloc o).cell? ⟨w.heap.size, 3, none⟩ = some (.slice (some bd) L.length c') ∧ (W'.alloc o).cell? (ad.add (p * 8)) = some (.string y.m.name) ∧ (W'.alloc o).cell? ⟨(ad.add (p * 8)).block, (ad.add (p * 8)).off + 1, none⟩ = some (.int .i64 y.m.major) ∧ (W'.alloc o).cell? ⟨(ad.add (p * 8)).block, (ad.add (p * 8)).off + 2, none⟩ = some (.int .i64 y.m.minor) ∧ (W'.alloc o).cell? ⟨(ad.add (p * 8)).block, (ad.add (p * 8)).off + 3, none⟩ = some (.string y.m.text) ∧ (W'.alloc o).cell? ⟨(ad.add (p * 8)).block, (ad.add (p * 8)).off + 4, none⟩ = some (.slice y.m.eA y.m.ex.length y.m.eC) ∧ (W'.alloc o).cell? ⟨(ad.add (p * 8)).block, (ad.add (p * 8)).off + 5, none⟩ = some (.slice y.m.iA y.m.im.length y.m.iC) ∧ (W'.alloc o).cell? ⟨(ad.add (p * 8)).block, (ad.add (p * 8)).off + 6, none⟩ = some (.slice y.m.pA y.m.pa.length y.m.pC) ∧ (W'.alloc o).cell? ⟨(ad.add (p * 8)).block, (ad.add (p * 8)).off + 7, none⟩ = some (.int .i64 y.first) ∧ (W'.alloc o).cell? (bd.add (p * 8)) = some (.string z.m.name) ∧ (W'.alloc o).cell? ⟨(bd.add (p * 8)).block, (bd.add (p * 8)).off + 1, none⟩ = some (.int .i64 z.m.major) ∧ (W'.alloc o).cell? ⟨(bd.add (p * 8)).block, (bd.add (p * 8)).off + 2, none⟩ = some (.int .i64 z.m.minor) ∧ (W'.alloc o).cell? ⟨(bd.add (p * 8)).block, (bd.add (p * 8)).off + 3, none⟩ = some (.string z.m.text) ∧ (W'.alloc o).cell? ⟨(bd.add (p * 8)).block, (bd.add (p * 8)).off + 4, none⟩ = some (.slice z.m.eA z.m.ex.length z.m.eC) ∧ (W'.alloc o).cell? ⟨(bd.add (p * 8)).block, (bd.add (p * 8)).off + 5, none⟩ = some (.slice z.m.iA z.m.im.length z.m.iC) ∧ (W'.alloc o).cell? ⟨(bd.add (p * 8)).block, (bd.add (p * 8)).off + 6, none⟩ = some (.slice z.m.pA z.m.pa.length z.m.pC) ∧ (W'.alloc o).cell? ⟨(bd.add (p * 8)).block, (bd.add (p * 8)).off + 7, none⟩ = some (.int .i64 z.first)) from fun W' o hc => HCS.out W' (W'.alloc o) hc ((Below.refl _ _).alloc (Nat.le_refl _) o))
              have HCX := Lib.hid (show ∀ (W' : World) (bX oX : Nat) (vX : Value), wr.heap.size ≤ bX → (Below wr.heap.size wr W' ∧ W'.cell? ⟨w6.heap.size, 3, none⟩ = some (.slice (some ad) l6.length n6) ∧ W'.cell? ⟨w.heap.size, 3, none⟩ = some (.slice (some bd) L.length c') ∧ W'.cell? (ad.add (p * 8)) = some (.string y.m.name) ∧ W'.cell? ⟨(ad.add (p * 8)).block, (ad.add (p * 8)).off + 1, none⟩ = some (.int .i64 y.m.major) ∧ W'.cell? ⟨(ad.add (p * 8)).block, (ad.add (p * 8)).off + 2, none⟩ = some (.int .i64 y.m.minor) ∧ W'.cell? ⟨(ad.add (p * 8)).block, (ad.add (p * 8)).off + 3, none⟩ = some (.string y.m.text) ∧ W'.cell? ⟨(ad.add (p * 8)).block, (ad.add (p * 8)).off + 4, none⟩ = some (.slice y.m.eA y.m.ex.length y.m.eC) ∧ W'.cell? ⟨(ad.add (p * 8)).block, (ad.add (p * 8)).off + 5, none⟩ = some (.slice y.m.iA y.m.im.length y.m.iC) ∧ W'.cell? ⟨(ad.add (p * 8)).block, (ad.add (p * 8)).off + 6, none⟩ = some (.slice y.m.pA y.m.pa.length y.m.pC) ∧ W'.cell? ⟨(ad.add (p * 8)).block, (ad.add (p * 8)).off + 7, none⟩ = some (.int .i64 y.first) ∧ W'.cell? (bd.add (p * 8)) = some (.string z.m.name) ∧ W'.cell? ⟨(bd.add (p * 8)).block, (bd.add (p * 8)).off + 1, none⟩ = some (.int .i64 z.m.major) ∧ W'.cell? ⟨(bd.add (p * 8)).block, (bd.add (p * 8)).off + 2, none⟩ = some (.int .i64 z.m.minor) ∧ W'.cell? ⟨(bd.add (p * 8)).block, (bd.add (p * 8)).off + 3, none⟩ = some (.string z.m.text) ∧ W'.cell? ⟨(bd.add (p * 8)).block, (bd.add (p * 8)).off + 4, none⟩ = some (.slice z.m.eA z.m.ex.length z.m.eC) ∧ W'.cell? ⟨(bd.add (p * 8)).block, (bd.add (p * 8)).off + 5, none⟩ = some (.slice z.m.iA z.m.im.length z.m.iC) ∧ W'.cell? ⟨(bd.add (p * 8)).block, (bd.add (p * 8)).off + 6, none⟩ = some (.slice z.m.pA z.m.pa.length z.m.pC) ∧ W'.cell? ⟨(bd.add (p * 8)).block, (bd.add (p * 8)).off + 7, none⟩ = some (.int .i64 z.first)) → (Below wr.heap.size wr (W'.setCell ⟨bX, oX, none⟩ vX) ∧ (W'.setCell ⟨bX, oX, none⟩ vX).cell? ⟨w6.heap.size, 3, none⟩ = some (.slice (some ad) l6.length n6) ∧ (W'.setCell ⟨bX, oX, none⟩ vX).cell? ⟨w.heap.size, 3, none⟩ = some (.slice (some bd) L.length c') ∧ (W'.setCell ⟨bX, oX, none⟩ vX).cell? (ad.add (p * 8)) = some (.string y.m.name) ∧ (W'.setCell ⟨bX, oX, none⟩ vX).cell? ⟨(ad.add (p * 8)).block, (ad.add (p * 8)).off + 1, none⟩ = some (.int .i64 y.m.major) ∧ (W'.setCell ⟨bX, oX, none⟩ vX).cell? ⟨(ad.add (p * 8)).block, (ad.add (p * 8)).off + 2, none⟩ = some (.int .i64 y.m.minor) ∧ (W'.setCell ⟨bX, oX, none⟩ vX).cell? ⟨(ad.add (p * 8)).block, (ad.add (p * 8)).off + 3, none⟩ = some (.string y.m.text) ∧ (W'.setCell ⟨bX, oX, none⟩ vX).cell? ⟨(ad.add (p * 8)).block, (ad.add (p * 8)).off + 4, none⟩ = some (.slice y.m.eA y.m.ex.length y.m.eC) ∧ (W'.setCell ⟨bX, oX, none⟩ vX).cell? ⟨(ad.add (p * 8)).block, (ad.add (p * 8)).off + 5, none⟩ = some (.slice y.m.iA y.m.im.length y.m.iC) ∧ (W'.setCell ⟨bX, oX, none⟩ vX).cell? ⟨(ad.add (p * 8)).block, (ad.add (p * 8)).off + 6, none⟩ = some (.slice y.m.pA y.m.pa.length y.m.pC) ∧ (W'.setCell ⟨bX, oX, none⟩ vX).cell? ⟨(ad.add (p * 8)).block, (ad.add (p * 8)).off + 7, none⟩ = some (.int .i64 y.first) ∧ (W'.setCell ⟨bX, oX, none⟩ vX).cell? (bd.add (p * 8)) = some (.string z.m.name) ∧ (W'.setCell ⟨bX, oX, none⟩ vX).cell? ⟨(bd.add (p * 8)).block, (bd.add (p * 8)).off + 1, none⟩ = some (.int .i64 z.m.major) ∧ (W'.setCell ⟨bX, oX, none⟩ vX).cell? ⟨(bd.add (p * 8)).block, (bd.add (p * 8)).off + 2, none⟩ = some (.int .i64 z.m.minor) ∧ (W'.setCell ⟨bX, oX, none⟩ vX).cell? ⟨(bd.add (p * 8)).block, (bd.add (p * 8)).off + 3, none⟩ = some (.string z.m.text) ∧ (W'.setCell ⟨bX, oX, none⟩ vX).cell? ⟨(bd.add (p * 8)).block, (bd.add (p * 8)).off + 4, none⟩ = some (.slice z.m.eA z.m.ex.length z.m.eC) ∧ (W'.setCell ⟨bX, oX, none⟩ vX).cell? ⟨(bd.add (p * 8)).block, (bd.add (p * 8)).off + 5, none⟩ = some (.slice z.m.iA z.m.im.length z.m.iC) ∧ (W'.setCell ⟨bX, oX, none⟩ vX).cell? ⟨(bd.add (p * 8)).block, (bd.add (p * 8)).off + 6, none⟩ = some (.slice z.m.pA z.m.pa.length z.m.pC) ∧ (W'.setCell ⟨bX, oX, none⟩ vX).cell? ⟨(bd.add (p * 8)).block, (bd.add (p * 8)).off + 7, none⟩ = some (.int .i64 z.first)) from fun W' bX oX vX hbX ⟨b, a0, a1, a2, a3, a4, a5, a6, a7, a8, a9, a10, a11, a12, a13, a14, a15, a16, a17⟩ => ⟨b.setCell (p := ⟨bX, oX, none⟩) hbX vX, (((Below.refl _ _).setCell (p := ⟨bX, oX, none⟩) hbX vX).cell (by first | omega | (simp; omega) | (simp only [block_of_add]; omega))).trans a0, (((Below.refl _ _).setCell (p := ⟨bX, oX, none⟩) hbX vX).cell (by first | omega | (simp; omega) | (simp only [block_of_add]; omega))).trans a1, (((Below.refl _ _).setCell (p := ⟨bX, oX, none⟩) hbX vX).cell (by first | omega | (simp; omega) | (simp only [block_of_add]; omega))).trans a2, (((Below.refl _ _).setCell (p := ⟨bX, oX, none⟩) hbX vX).cell (by first | omega | (simp; omega) | (simp only [block_of_add]; omega))).trans a3, (((Below.refl _ _).setCell (p := ⟨bX, oX, none⟩) hbX vX).cell (by first | omega | (simp; omega) | (simp only [block_of_add]; omega))).trans a4, (((Below.refl _ _).setCell (p := ⟨bX, oX, none⟩) hbX vX).cell (by first | omega | (simp; omega) | (simp only [block_of_add]; omega))).trans a5, (((Below.refl _ _).setCell (p := ⟨bX, oX, none⟩) hbX vX).cell (by first | omega | (simp; omega) | (simp only [block_of_add]; omega))).trans a6, (((Below.refl _ _).setCell (p := ⟨bX, oX, none⟩) hbX vX).cell (by first | omega | (simp; omega) | (simp only [block_of_add]; omega))).trans a7, (((Below.refl _ _).setCell (p := ⟨bX, oX, none⟩) hbX vX).cell (by first | omega | (simp; omega) | (simp only [block_of_add]; omega))).trans a8, (((Below.refl _ _).setCell (p := ⟨bX, oX, none⟩) hbX vX).cell (by first | omega | (simp; omega) | (simp only [block_of_add]; omega))).trans a9, (((Below.refl _ _).setCell (p := ⟨bX, oX, none⟩) hbX vX).cell (by first | omega | (simp; omega) | (simp only [block_of_add]; omega))).trans a10, (((Below.refl _ _).setCell (p := ⟨bX, oX, none⟩) hbX vX).cell (by first | omega | (simp; omega) | (simp only [block_of_add]; omega))).trans a11, (((Below.refl _ _).setCell (p := ⟨bX, oX, none⟩) hbX vX).cell (by first | omega | (simp; omega) | (simp only [block_of_add]; omega))).trans a12, (((Below.refl _ _).setCell (p := ⟨bX, oX, none⟩) hbX vX).cell (by first | omega | (simp; omega) | (simp only [block_of_add]; omega))).trans a13, (((Below.refl _ _).setCell (p := ⟨bX, oX, none⟩) hbX vX).cell (by first | omega | (simp; omega) | (simp only [block_of_add]; omega))).trans a14, (((Below.refl _ _).setCell (p := ⟨bX, oX, none⟩) hbX vX).cell (by first | omega | (simp; omega) | (simp only [block_of_add]; omega))).trans a15, (((Below.refl _ _).setCell (p := ⟨bX, oX, none⟩) hbX vX).cell (by first | omega | (simp; omega) | (simp only [block_of_add]; omega))).trans a16, (((Below.refl _ _).setCell (p := ⟨bX, oX, none⟩) hbX vX).cell (by first | omega | (simp; omega) | (simp only [block_of_add]; omega))).trans a17⟩)
              have HCL := Lib.hid (show ∀ W' : World, (Below wr.heap.size wr W' ∧ W'.cell? ⟨w6.heap.size, 3, none⟩ = some (.slice (some ad) l6.length n6) ∧ W'.cell? ⟨w.heap.size, 3, none⟩ = some (.slice (some bd) L.length c') ∧ W'.cell? (ad.add (p * 8)) = some (.string y.m.name) ∧ W'.cell? ⟨(ad.add (p * 8)).block, (ad.add (p * 8)).off + 1, none⟩ = some (.int .i64 y.m.major) ∧ W'.cell? ⟨(ad.add (p * 8)).block, (ad.add (p * 8)).off + 2, none⟩ = some (.int .i64 y.m.minor) ∧ W'.cell? ⟨(ad.add (p * 8)).block, (ad.add (p * 8)).off + 3, none⟩ = some (.string y.m.text) ∧ W'.cell? ⟨(ad.add (p * 8)).block, (ad.add (p * 8)).off + 4, none⟩ = some (.slice y.m.eA y.m.ex.length y.m.eC) ∧ W'.cell? ⟨(ad.add (p * 8)).block, (ad.add (p * 8)).off + 5, none⟩ = some (.slice y.m.iA y.m.im.length y.m.iC) ∧ W'.cell? ⟨(ad.add (p * 8)).block, (ad.add (p * 8)).off + 6, none⟩ = some (.slice y.m.pA y.m.pa.length y.m.pC) ∧ W'.cell? ⟨(ad.add (p * 8)).block, (ad.add (p * 8)).off + 7, none⟩ = some (.int .i64 y.first) ∧ W'.cell? (bd.add (p * 8)) = some (.string z.m.name) ∧ W'.cell? ⟨(bd.add (p * 8)).block, (bd.add (p * 8)).off + 1, none⟩ = some (.int .i64 z.m.major) ∧ W'.cell? ⟨(bd.add (p * 8)).block, (bd.add (p * 8)).off + 2, none⟩ = some (.int .i64 z.m.minor) ∧ W'.cell? ⟨(bd.add (p * 8)).block, (bd.add (p * 8)).off + 3, none⟩ = some (.string z.m.text) ∧ W'.cell? ⟨(bd.add (p * 8)).block, (bd.add (p * 8)).off + 4, none⟩ = some (.slice z.m.eA z.m.ex.length z.m.eC) ∧ W'.cell? ⟨(bd.add (p * 8)).block, (bd.add (p * 8)).off + 5, none⟩ = some (.slice z.m.iA z.m.im.length z.m.iC) ∧ W'.cell? ⟨(bd.add (p * 8)).block, (bd.add (p * 8)).off + 6, none⟩ = some (.slice z.m.pA z.m.pa.length z.m.pC) ∧ W'.cell? ⟨(bd.add (p * 8)).block, (bd.add (p * 8)).off + 7, none⟩ = some (.int .i64 z.first)) → Below wr.heap.size wr W' from fun W' hc => hc.1)
              go_wp2_with fail
              go_region_held3 (fun W' => Below wr.heap.size wr W' ∧ W'.cell? ⟨w6.heap.size, 3, none⟩ = some (.slice (some ad) l6.length n6) ∧ W'.cell? ⟨w.heap.size, 3, none⟩ = some (.slice (some bd) L.length c') ∧ W'.cell? (ad.add (p * 8)) = some (.string y.m.name) ∧ W'.cell? ⟨(ad.add (p * 8)).block, (ad.add (p * 8)).off + 1, none⟩ = some (.int .i64 y.m.major) ∧ W'.cell? ⟨(ad.add (p * 8)).block, (ad.add (p * 8)).off + 2, none⟩ = some (.int .i64 y.m.minor) ∧ W'.cell? ⟨(ad.add (p * 8)).block, (ad.add (p * 8)).off + 3, none⟩ = some (.string y.m.text) ∧ W'.cell? ⟨(ad.add (p * 8)).block, (ad.add (p * 8)).off + 4, none⟩ = some (.slice y.m.eA y.m.ex.length y.m.eC) ∧ W'.cell? ⟨(ad.add (p * 8)).block, (ad.add (p * 8)).off + 5, none⟩ = some (.slice y.m.iA y.m.im.length y.m.iC) ∧ W'.cell? ⟨(ad.add (p * 8)).block, (ad.add (p * 8)).off + 6, none⟩ = some (.slice y.m.pA y.m.pa.length y.m.pC) ∧ W'.cell? ⟨(ad.add (p * 8)).block, (ad.add (p * 8)).off + 7, none⟩ = some (.int .i64 y.first) ∧ W'.cell? (bd.add (p * 8)) = some (.string z.m.name) ∧ W'.cell? ⟨(bd.add (p * 8)).block, (bd.add (p * 8)).off + 1, none⟩ = some (.int .i64 z.m.major) ∧ W'.cell? ⟨(bd.add (p * 8)).block, (bd.add (p * 8)).off + 2, none⟩ = some (.int .i64 z.m.minor) ∧ W'.cell? ⟨(bd.add (p * 8)).block, (bd.add (p * 8)).off + 3, none⟩ = some (.string z.m.text) ∧ W'.cell? ⟨(bd.add (p * 8)).block, (bd.add (p * 8)).off + 4, none⟩ = some (.slice z.m.eA z.m.ex.length z.m.eC) ∧ W'.cell? ⟨(bd.add (p * 8)).block, (bd.add (p * 8)).off + 5, none⟩ = some (.slice z.m.iA z.m.im.length z.m.iC) ∧ W'.cell? ⟨(bd.add (p * 8)).block, (bd.add (p * 8)).off + 6, none⟩ = some (.slice z.m.pA z.m.pa.length z.m.pC) ∧ W'.cell? ⟨(bd.add (p * 8)).block, (bd.add (p * 8)).off + 7, none⟩ = some (.int .i64 z.first)) (first | exact HC0.out | exact HCD.out _ HC0.out | exact HCS.out _ _ (by assumption) (by assumption) | exact HCS.out _ _ HC0.out (by assumption) | exact HCS.out _ _ (HCD.out _ HC0.out) (by assumption) | exact HCS.out _ _ (HCD.out _ (by assumption)) (by assumption) | exact HCD.out _ (by assumption) | exact HCA.out _ _ (by assumption) | exact HCA.out _ _ HC0.out | exact HCA.out _ _ (HCD.out _ HC0.out) | exact HCD.out _ (HCA.out _ _ (by assumption)) | exact HCA.out _ _ (HCS.out _ _ HC0.out (by assumption)) | exact HCA.out _ _ (HCS.out _ _ (HCD.out _ HC0.out) (by assumption)) | exact HCX.out _ _ _ _ (Nat.le_refl _) (by assumption) | exact HCX.out _ _ _ _ (Nat.le_refl _) (HCS.out _ _ (HCA.out _ _ HC0.out) (by assumption)) | exact HCX.out _ _ _ _ (Nat.le_refl _) (HCS.out _ _ (HCD.out _ (HCA.out _ _ HC0.out)) (by assumption)) | assumption) (first | (go_at_call 44; (with_reducible refine (cM.out _ (HBZ.out.trans ((HCL.out _ (by assumption)).mono HBZ.out.size))).mono ?_); rintro e w9 ⟨rfl, hb9⟩))
              have HB9 := Lib.hid (HBZ.out.trans ((HCL.out _ (by assumption)).mono HBZ.out.size))
              go_wp2_with fail
              go_roundw
              case rel => exact ⟨p + 1, by omega, by go_num, HB9.out⟩
              case measure => (simp [intOf]; try omega)
            · clear hbz
              go_wp2_with fail
              obtain ⟨hg4, ho⟩ := set4 HRZ.out (.int .i64 k6.major) (.int .i64 k6.minor) (.slice k6.eA k6.ex.length k6.eC) (.slice A6 L.length n6)
              have hlt7 := HLT7.out
              have hlt4 := HLT.out
              have hsw := (Array.getElem?_eq_some_iff.1 HRZ.out).1
              have hT := (HT8.out.below HBZ.out).other ⟨_, _, _, _, _, _, _, _, HRZ.out⟩ ho
              have hU := (HU8.out.below HBZ.out).other ⟨_, _, _, _, _, _, _, _, HRZ.out⟩ ho
              have hCz := blk' HBZ.out HC8.out
              have hC := (ho.block w4.heap.size (Array.getElem?_eq_some_iff.1 hCz).1 (by omega)).trans hCz
              obtain ⟨j1, j2⟩ := pack_like HM6.out 0
              have hp1 := HI.out.pack.1
              have hp2 := HI.out.pack.2
              rw [HS2.out] at hp1 hp2
              have hbel := (HB8.out.trans (HBZ.out.mono HB8.out.size)).trans (ho.below (Nat.le_of_lt hsw))
              have HNEW := Lib.hid (And.intro (show StepsInv w k l (q + 1) k6 A6 l6 n6 _ from ⟨by rw [HL6.out]; exact hg4, hT, HK6.out.trans HI.out.kern, HRG6.out, HL6.out.trans HI.out.len, j1.trans hp1, by simp only at hp2; omega⟩) (And.intro hC (And.intro hU hbel)))
              clear hg4 ho hT hU hCz hC hbel hlt7 hlt4 hsw j1 j2 hp1 hp2
              go_roundw
              case rel => first | exact ⟨q + 1, k6, A6, l6, n6, hlt, by go_num, HNEW.out.1, HNEW.out.2.1, HNEW.out.2.2.1, HNEW.out.2.2.2⟩ | ((repeat apply Exists.intro); refine ⟨?_, rfl⟩; exact ⟨q + 1, k6, A6, l6, n6, hlt, by go_num, HNEW.out.1, HNEW.out.2.1, HNEW.out.2.2.1, HNEW.out.2.2.2⟩)
              case measure => (simp [intOf]; try omega)
      · have hqn : q = n := by omega
        have hp0 : (packL 0 L).2 = 0 := by have := HN2.out; omega
        have hst := pack_zero H16.out hp0
        have hpl := step_none H16.out hst
        have HBL := Lib.hid (show bares L = bares l4 from by
          have h1 := HI.out.pack.1
          rw [hpl] at h1
          exact h1.trans HQ.out.2.symm)
        rw [hok, hst] at cS
        have hfe : regErr l4 = 0 := (linkErr_ok (rgErr_ok HPF.out.1).1).2.1
        have hfr : freeOf l4 = runsOf l4 := by unfold freeOf; rw [if_neg (by omega)]
        have cF := Lib.hid (fun W (hW : PlsOk W A4 l4) => Free_any A4 n4 l4 W hW)
        rw [hfe, hfr] at cF
        clear hI hpk hok hp0 hst hpl hfe hfr
        go_wp2_with fail
        refine (cS.out).mono ?_; rintro e w6 ⟨⟨k6, A6, l6, n6, rfl, hrg⟩, hb6⟩
        obtain ⟨w7, hw7⟩ : ∃ w7, w7 = w6.alloc (.cells #[.int .i64 k6.major, .int .i64 k6.minor, .slice k6.eA k6.ex.length k6.eC, .slice A6 l6.length n6] 39) := ⟨_, rfl⟩
        have hb7 : Below w6.heap.size w6 w7 := hw7 ▸ (Below.refl _ _).alloc (Nat.le_refl _) _
        have hb67 := hb6.trans (hb7.mono hb6.size)
        have HC7 := Lib.hid (blk' hb67 HCR.out)
        have HU7 := Lib.hid (HTR.out.below hb67)
        have HR7 := Lib.hid (blk' hb67 HI.out.heap)
        have HV7 := Lib.hid (HI.out.there.below hb67)
        have HB7 := Lib.hid (HB.out.trans (hb67.mono HB.out.size))
        obtain ⟨_, _, _, _, d3, _⟩ := rgcells HC7.out
        have hw7' := hw7.symm
        clear hrg hw7 hb6 hb7 hb67 r0 r1 r2 r3 b0 b1 b2 b3
        go_wp2_with fail
        refine (cF.out _ HU7.out.2).mono ?_; rintro e w8 ⟨⟨A8, c8, rfl, hrun⟩, hb8⟩
        have HR8 := Lib.hid (blk' hb8 HR7.out)
        have HC8 := Lib.hid (blk' hb8 HC7.out)
        have HV8 := Lib.hid (HV7.out.below hb8)
        have HU8 := Lib.hid (HU7.out.below hb8)
        have HB8 := Lib.hid (HB7.out.trans (hb8.mono HB7.out.size))
        obtain ⟨_, r0, r1, r2, r3, _⟩ := rgcells HR8.out
        obtain ⟨_, e0, e1, e2, e3, _⟩ := rgcells HC8.out
        have hrz := (Array.getElem?_eq_some_iff.1 HR8.out).1
        have hcz := (Array.getElem?_eq_some_iff.1 HC8.out).1
        have cR := Lib.hid (fun W (hb : Below w8.heap.size w8 W) => SameRegistry_any K k4 A' A4 c' n4 L l4 W (HV8.out.below hb).1 (HV8.out.below hb).2 (HU8.out.below hb).1 (HU8.out.below hb).2 (HI.out.kern.trans HQ.out.1.symm) HBL.out)
        clear hb8 cS cF d3
        rcases HPR.out with hr0 | ⟨s, hs0, hs1, hr1⟩
        · rw [hr0] at hrun ⊢
          clear hrun
          try clear HR0; try clear H0; try clear HRW; try clear hmP; try clear HU; try clear HB3; try clear HR3; try clear HN; try clear HC5; try clear HB5; try clear HR5; try clear HT5; try clear HS4; try clear HLT; try clear HQ; try clear HRG; try clear HF2; try clear HPF; try clear HI0; try clear HI; try clear HCR; try clear HTR; try clear HB; try clear HM; try clear H16; try clear HN2; try clear HBL; try clear HC7; try clear HU7; try clear HR7; try clear HV7; try clear HB7; try clear HR8; try clear HC8; try clear HV8; try clear HU8; try clear HE; try clear HPR; try clear c1; try clear hw0'; try clear hw5'; try clear hw7'; try clear f3; try clear hnl; try clear hn9; try clear hnd; try clear hnd2; try clear hq8; try clear hlt; try clear hqn; try clear hq; try clear d0; try clear d1; try clear d2; try clear d3
          have HJ0 := Lib.hid (show Below w8.heap.size w8 w8 ∧ w8.cell? ⟨w.heap.size, 0, none⟩ = some (.int .i64 K.major) ∧ w8.cell? ⟨w.heap.size, 1, none⟩ = some (.int .i64 K.minor) ∧ w8.cell? ⟨w.heap.size, 2, none⟩ = some (.slice K.eA K.ex.length K.eC) ∧ w8.cell? ⟨w.heap.size, 3, none⟩ = some (.slice A' L.length c') ∧ w8.cell? ⟨w4.heap.size, 0, none⟩ = some (.int .i64 k4.major) ∧ w8.cell? ⟨w4.heap.size, 1, none⟩ = some (.int .i64 k4.minor) ∧ w8.cell? ⟨w4.heap.size, 2, none⟩ = some (.slice k4.eA k4.ex.length k4.eC) ∧ w8.cell? ⟨w4.heap.size, 3, none⟩ = some (.slice A4 l4.length n4) from ⟨Below.refl _ _, by assumption, by assumption, by assumption, by assumption, by assumption, by assumption, by assumption, by assumption⟩)
          have HJD := Lib.hid (show ∀ W' : World, (Below w8.heap.size w8 W' ∧ W'.cell? ⟨w.heap.size, 0, none⟩ = some (.int .i64 K.major) ∧ W'.cell? ⟨w.heap.size, 1, none⟩ = some (.int .i64 K.minor) ∧ W'.cell? ⟨w.heap.size, 2, none⟩ = some (.slice K.eA K.ex.length K.eC) ∧ W'.cell? ⟨w.heap.size, 3, none⟩ = some (.slice A' L.length c') ∧ W'.cell? ⟨w4.heap.size, 0, none⟩ = some (.int .i64 k4.major) ∧ W'.cell? ⟨w4.heap.size, 1, none⟩ = some (.int .i64 k4.minor) ∧ W'.cell? ⟨w4.heap.size, 2, none⟩ = some (.slice k4.eA k4.ex.length k4.eC) ∧ W'.cell? ⟨w4.heap.size, 3, none⟩ = some (.slice A4 l4.length n4)) → (Below w8.heap.size w8 W'.drew ∧ W'.drew.cell? ⟨w.heap.size, 0, none⟩ = some (.int .i64 K.major) ∧ W'.drew.cell? ⟨w.heap.size, 1, none⟩ = some (.int .i64 K.minor) ∧ W'.drew.cell? ⟨w.heap.size, 2, none⟩ = some (.slice K.eA K.ex.length K.eC) ∧ W'.drew.cell? ⟨w.heap.size, 3, none⟩ = some (.slice A' L.length c') ∧ W'.drew.cell? ⟨w4.heap.size, 0, none⟩ = some (.int .i64 k4.major) ∧ W'.drew.cell? ⟨w4.heap.size, 1, none⟩ = some (.int .i64 k4.minor) ∧ W'.drew.cell? ⟨w4.heap.size, 2, none⟩ = some (.slice k4.eA k4.ex.length k4.eC) ∧ W'.drew.cell? ⟨w4.heap.size, 3, none⟩ = some (.slice A4 l4.length n4)) from fun W' ⟨b, a0, a1, a2, a3, a4, a5, a6, a7⟩ => ⟨b.drew, a0, a1, a2, a3, a4, a5, a6, a7⟩)
          have HJS := Lib.hid (show ∀ W' W2 : World, (Below w8.heap.size w8 W' ∧ W'.cell? ⟨w.heap.size, 0, none⟩ = some (.int .i64 K.major) ∧ W'.cell? ⟨w.heap.size, 1, none⟩ = some (.int .i64 K.minor) ∧ W'.cell? ⟨w.heap.size, 2, none⟩ = some (.slice K.eA K.ex.length K.eC) ∧ W'.cell? ⟨w.heap.size, 3, none⟩ = some (.slice A' L.length c') ∧ W'.cell? ⟨w4.heap.size, 0, none⟩ = some (.int .i64 k4.major) ∧ W'.cell? ⟨w4.heap.size, 1, none⟩ = some (.int .i64 k4.minor) ∧ W'.cell? ⟨w4.heap.size, 2, none⟩ = some (.slice k4.eA k4.ex.length k4.eC) ∧ W'.cell? ⟨w4.heap.size, 3, none⟩ = some (.slice A4 l4.length n4)) → Below W'.heap.size W' W2 → (Below w8.heap.size w8 W2 ∧ W2.cell? ⟨w.heap.size, 0, none⟩ = some (.int .i64 K.major) ∧ W2.cell? ⟨w.heap.size, 1, none⟩ = some (.int .i64 K.minor) ∧ W2.cell? ⟨w.heap.size, 2, none⟩ = some (.slice K.eA K.ex.length K.eC) ∧ W2.cell? ⟨w.heap.size, 3, none⟩ = some (.slice A' L.length c') ∧ W2.cell? ⟨w4.heap.size, 0, none⟩ = some (.int .i64 k4.major) ∧ W2.cell? ⟨w4.heap.size, 1, none⟩ = some (.int .i64 k4.minor) ∧ W2.cell? ⟨w4.heap.size, 2, none⟩ = some (.slice k4.eA k4.ex.length k4.eC) ∧ W2.cell? ⟨w4.heap.size, 3, none⟩ = some (.slice A4 l4.length n4)) from fun W' W2 ⟨b, a0, a1, a2, a3, a4, a5, a6, a7⟩ hb => have s := b.size; ⟨b.trans (hb.mono s), (hb.cell (by first | omega | (simp; omega) | (simp only [block_of_add]; omega))).trans a0, (hb.cell (by first | omega | (simp; omega) | (simp only [block_of_add]; omega))).trans a1, (hb.cell (by first | omega | (simp; omega) | (simp only [block_of_add]; omega))).trans a2, (hb.cell (by first | omega | (simp; omega) | (simp only [block_of_add]; omega))).trans a3, (hb.cell (by first | omega | (simp; omega) | (simp only [block_of_add]; omega))).trans a4, (hb.cell (by first | omega | (simp; omega) | (simp only [block_of_add]; omega))).trans a5, (hb.cell (by first | omega | (simp; omega) | (simp only [block_of_add]; omega))).trans a6, (hb.cell (by first | omega | (simp; omega) | (simp only [block_of_add]; omega))).trans a7⟩)
          have HJA := Lib.hid (show ∀ (W' : World) (o : Obj), (Below w8.heap.size w8 W' ∧ W'.cell? ⟨w.heap.size, 0, none⟩ = some (.int .i64 K.major) ∧ W'.cell? ⟨w.heap.size, 1, none⟩ = some (.int .i64 K.minor) ∧ W'.cell? ⟨w.heap.size, 2, none⟩ = some (.slice K.eA K.ex.length K.eC) ∧ W'.cell? ⟨w.heap.size, 3, none⟩ = some (.slice A' L.length c') ∧ W'.cell? ⟨w4.heap.size, 0, none⟩ = some (.int .i64 k4.major) ∧ W'.cell? ⟨w4.heap.size, 1, none⟩ = some (.int .i64 k4.minor) ∧ W'.cell? ⟨w4.heap.size, 2, none⟩ = some (.slice k4.eA k4.ex.length k4.eC) ∧ W'.cell? ⟨w4.heap.size, 3, none⟩ = some (.slice A4 l4.length n4)) → (Below w8.heap.size w8 (W'.alloc o) ∧ (W'.alloc o).cell? ⟨w.heap.size, 0, none⟩ = some (.int .i64 K.major) ∧ (W'.alloc o).cell? ⟨w.heap.size, 1, none⟩ = some (.int .i64 K.minor) ∧ (W'.alloc o).cell? ⟨w.heap.size, 2, none⟩ = some (.slice K.eA K.ex.length K.eC) ∧ (W'.alloc o).cell? ⟨w.heap.size, 3, none⟩ = some (.slice A' L.length c') ∧ (W'.alloc o).cell? ⟨w4.heap.size, 0, none⟩ = some (.int .i64 k4.major) ∧ (W'.alloc o).cell? ⟨w4.heap.size, 1, none⟩ = some (.int .i64 k4.minor) ∧ (W'.alloc o).cell? ⟨w4.heap.size, 2, none⟩ = some (.slice k4.eA k4.ex.length k4.eC) ∧ (W'.alloc o).cell? ⟨w4.heap.size, 3, none⟩ = some (.slice A4 l4.length n4)) from fun W' o hc => HJS.out W' (W'.alloc o) hc ((Below.refl _ _).alloc (Nat.le_refl _) o))
          have HJX := Lib.hid (show ∀ (W' : World) (bX oX : Nat) (vX : Value), w8.heap.size ≤ bX → (Below w8.heap.size w8 W' ∧ W'.cell? ⟨w.heap.size, 0, none⟩ = some (.int .i64 K.major) ∧ W'.cell? ⟨w.heap.size, 1, none⟩ = some (.int .i64 K.minor) ∧ W'.cell? ⟨w.heap.size, 2, none⟩ = some (.slice K.eA K.ex.length K.eC) ∧ W'.cell? ⟨w.heap.size, 3, none⟩ = some (.slice A' L.length c') ∧ W'.cell? ⟨w4.heap.size, 0, none⟩ = some (.int .i64 k4.major) ∧ W'.cell? ⟨w4.heap.size, 1, none⟩ = some (.int .i64 k4.minor) ∧ W'.cell? ⟨w4.heap.size, 2, none⟩ = some (.slice k4.eA k4.ex.length k4.eC) ∧ W'.cell? ⟨w4.heap.size, 3, none⟩ = some (.slice A4 l4.length n4)) → (Below w8.heap.size w8 (W'.setCell ⟨bX, oX, none⟩ vX) ∧ (W'.setCell ⟨bX, oX, none⟩ vX).cell? ⟨w.heap.size, 0, none⟩ = some (.int .i64 K.major) ∧ (W'.setCell ⟨bX, oX, none⟩ vX).cell? ⟨w.heap.size, 1, none⟩ = some (.int .i64 K.minor) ∧ (W'.setCell ⟨bX, oX, none⟩ vX).cell? ⟨w.heap.size, 2, none⟩ = some (.slice K.eA K.ex.length K.eC) ∧ (W'.setCell ⟨bX, oX, none⟩ vX).cell? ⟨w.heap.size, 3, none⟩ = some (.slice A' L.length c') ∧ (W'.setCell ⟨bX, oX, none⟩ vX).cell? ⟨w4.heap.size, 0, none⟩ = some (.int .i64 k4.major) ∧ (W'.setCell ⟨bX, oX, none⟩ vX).cell? ⟨w4.heap.size, 1, none⟩ = some (.int .i64 k4.minor) ∧ (W'.setCell ⟨bX, oX, none⟩ vX).cell? ⟨w4.heap.size, 2, none⟩ = some (.slice k4.eA k4.ex.length k4.eC) ∧ (W'.setCell ⟨bX, oX, none⟩ vX).cell? ⟨w4.heap.size, 3, none⟩ = some (.slice A4 l4.length n4)) from fun W' bX oX vX hbX ⟨b, a0, a1, a2, a3, a4, a5, a6, a7⟩ => ⟨b.setCell (p := ⟨bX, oX, none⟩) hbX vX, (((Below.refl _ _).setCell (p := ⟨bX, oX, none⟩) hbX vX).cell (by first | omega | (simp; omega) | (simp only [block_of_add]; omega))).trans a0, (((Below.refl _ _).setCell (p := ⟨bX, oX, none⟩) hbX vX).cell (by first | omega | (simp; omega) | (simp only [block_of_add]; omega))).trans a1, (((Below.refl _ _).setCell (p := ⟨bX, oX, none⟩) hbX vX).cell (by first | omega | (simp; omega) | (simp only [block_of_add]; omega))).trans a2, (((Below.refl _ _).setCell (p := ⟨bX, oX, none⟩) hbX vX).cell (by first | omega | (simp; omega) | (simp only [block_of_add]; omega))).trans a3, (((Below.refl _ _).setCell (p := ⟨bX, oX, none⟩) hbX vX).cell (by first | omega | (simp; omega) | (simp only [block_of_add]; omega))).trans a4, (((Below.refl _ _).setCell (p := ⟨bX, oX, none⟩) hbX vX).cell (by first | omega | (simp; omega) | (simp only [block_of_add]; omega))).trans a5, (((Below.refl _ _).setCell (p := ⟨bX, oX, none⟩) hbX vX).cell (by first | omega | (simp; omega) | (simp only [block_of_add]; omega))).trans a6, (((Below.refl _ _).setCell (p := ⟨bX, oX, none⟩) hbX vX).cell (by first | omega | (simp; omega) | (simp only [block_of_add]; omega))).trans a7⟩)
          have HJL := Lib.hid (show ∀ W' : World, (Below w8.heap.size w8 W' ∧ W'.cell? ⟨w.heap.size, 0, none⟩ = some (.int .i64 K.major) ∧ W'.cell? ⟨w.heap.size, 1, none⟩ = some (.int .i64 K.minor) ∧ W'.cell? ⟨w.heap.size, 2, none⟩ = some (.slice K.eA K.ex.length K.eC) ∧ W'.cell? ⟨w.heap.size, 3, none⟩ = some (.slice A' L.length c') ∧ W'.cell? ⟨w4.heap.size, 0, none⟩ = some (.int .i64 k4.major) ∧ W'.cell? ⟨w4.heap.size, 1, none⟩ = some (.int .i64 k4.minor) ∧ W'.cell? ⟨w4.heap.size, 2, none⟩ = some (.slice k4.eA k4.ex.length k4.eC) ∧ W'.cell? ⟨w4.heap.size, 3, none⟩ = some (.slice A4 l4.length n4)) → Below w8.heap.size w8 W' from fun W' hc => hc.1)
          go_wp2_with fail
          refine wp_region_held_drew (S := fun W' => Below w8.heap.size w8 W' ∧ W'.cell? ⟨w.heap.size, 0, none⟩ = some (.int .i64 K.major) ∧ W'.cell? ⟨w.heap.size, 1, none⟩ = some (.int .i64 K.minor) ∧ W'.cell? ⟨w.heap.size, 2, none⟩ = some (.slice K.eA K.ex.length K.eC) ∧ W'.cell? ⟨w.heap.size, 3, none⟩ = some (.slice A' L.length c') ∧ W'.cell? ⟨w4.heap.size, 0, none⟩ = some (.int .i64 k4.major) ∧ W'.cell? ⟨w4.heap.size, 1, none⟩ = some (.int .i64 k4.minor) ∧ W'.cell? ⟨w4.heap.size, 2, none⟩ = some (.slice k4.eA k4.ex.length k4.eC) ∧ W'.cell? ⟨w4.heap.size, 3, none⟩ = some (.slice A4 l4.length n4)) (by kernel_rfl) (HJD.out _ HJ0.out) (fun hHeld => ?_)
          refine wpAnyH_take (i := 0) (v := ?_) rfl (by kernel_rfl) (by kernel_rfl) (by kernel_rfl) (fun _ _ _ h => h) (Or.inl ⟨by rfl, ?_⟩) hHeld ?_
          rotate_left
          · (intro w hSw; (try dsimp only at hSw); go_simp; all_goals with_reducible rfl)
          try simp only [Act.put, List.getElem_toArray, List.getElem_cons_zero, List.setIfInBounds_toArray, List.set_cons_zero, List.set_cons_succ]
          refine wpAnyH_take (i := 1) (v := ?_) rfl (by kernel_rfl) (by kernel_rfl) (by kernel_rfl) (fun _ _ _ h => h) (Or.inl ⟨by rfl, ?_⟩) hHeld ?_
          rotate_left
          · (intro w hSw; (try dsimp only at hSw); go_simp; all_goals with_reducible rfl)
          try simp only [Act.put, List.getElem_toArray, List.getElem_cons_zero, List.getElem_cons_succ, List.setIfInBounds_toArray, List.set_cons_zero, List.set_cons_succ]
          refine wpAnyH_take (i := 2) (v := ?_) rfl (by kernel_rfl) (by kernel_rfl) (by kernel_rfl) (fun _ _ _ h => h) (Or.inl ⟨by rfl, ?_⟩) hHeld ?_
          rotate_left
          · (intro w hSw; (try dsimp only at hSw); go_simp; all_goals with_reducible rfl)
          try simp only [Act.put, List.getElem_toArray, List.getElem_cons_zero, List.getElem_cons_succ, List.setIfInBounds_toArray, List.set_cons_zero, List.set_cons_succ]
          refine wpAnyH_take (i := 3) (v := ?_) rfl (by kernel_rfl) (by kernel_rfl) (by kernel_rfl) (fun _ _ _ h => h) (Or.inl ⟨by rfl, ?_⟩) hHeld ?_
          rotate_left
          · (intro w hSw; (try dsimp only at hSw); go_simp; all_goals with_reducible rfl)
          try simp only [Act.put, List.getElem_toArray, List.getElem_cons_zero, List.getElem_cons_succ, List.setIfInBounds_toArray, List.set_cons_zero, List.set_cons_succ]
          refine wpAnyH_take (i := 4) (v := ?_) rfl (by kernel_rfl) (by kernel_rfl) (by kernel_rfl) (fun _ _ _ h => h) (Or.inl ⟨by rfl, ?_⟩) hHeld ?_
          rotate_left
          · (intro w hSw; (try dsimp only at hSw); go_simp; all_goals with_reducible rfl)
          try simp only [Act.put, List.getElem_toArray, List.getElem_cons_zero, List.getElem_cons_succ, List.setIfInBounds_toArray, List.set_cons_zero, List.set_cons_succ]
          refine wpAnyH_take (i := 5) (v := ?_) rfl (by kernel_rfl) (by kernel_rfl) (by kernel_rfl) (fun _ _ _ h => h) (Or.inl ⟨by rfl, ?_⟩) hHeld ?_
          rotate_left
          · (intro w hSw; (try dsimp only at hSw); go_simp; all_goals with_reducible rfl)
          try simp only [Act.put, List.getElem_toArray, List.getElem_cons_zero, List.getElem_cons_succ, List.setIfInBounds_toArray, List.set_cons_zero, List.set_cons_succ]
          refine wpAnyH_take (i := 6) (v := ?_) rfl (by kernel_rfl) (by kernel_rfl) (by kernel_rfl) (fun _ _ _ h => h) (Or.inl ⟨by rfl, ?_⟩) hHeld ?_
          rotate_left
          · (intro w hSw; (try dsimp only at hSw); go_simp; all_goals with_reducible rfl)
          try simp only [Act.put, List.getElem_toArray, List.getElem_cons_zero, List.getElem_cons_succ, List.setIfInBounds_toArray, List.set_cons_zero, List.set_cons_succ]
          refine wpAnyH_take (i := 7) (v := ?_) rfl (by kernel_rfl) (by kernel_rfl) (by kernel_rfl) (fun _ _ _ h => h) (Or.inl ⟨by rfl, ?_⟩) hHeld ?_
          rotate_left
          · (intro w hSw; (try dsimp only at hSw); go_simp; all_goals with_reducible rfl)
          try simp only [Act.put, List.getElem_toArray, List.getElem_cons_zero, List.getElem_cons_succ, List.setIfInBounds_toArray, List.set_cons_zero, List.set_cons_succ]
          refine wpAnyH_take (i := 8) (v := ?_) rfl (by kernel_rfl) (by kernel_rfl) (by kernel_rfl) (fun _ _ _ h => h) (Or.inl ⟨by rfl, ?_⟩) hHeld ?_
          rotate_left
          · (intro w hSw; (try dsimp only at hSw); go_simp; all_goals with_reducible rfl)
          try simp only [Act.put, List.getElem_toArray, List.getElem_cons_zero, List.getElem_cons_succ, List.setIfInBounds_toArray, List.set_cons_zero, List.set_cons_succ]
          refine wpAnyH_take (i := 9) (v := ?_) rfl (by kernel_rfl) (by kernel_rfl) (by kernel_rfl) (fun _ _ _ h => h) (Or.inl ⟨by rfl, ?_⟩) hHeld ?_
          rotate_left
          · (intro w hSw; (try dsimp only at hSw); go_simp; all_goals with_reducible rfl)
          try simp only [Act.put, List.getElem_toArray, List.getElem_cons_zero, List.getElem_cons_succ, List.setIfInBounds_toArray, List.set_cons_zero, List.set_cons_succ]
          refine wpAnyH_take (i := 10) (v := ?_) rfl (by kernel_rfl) (by kernel_rfl) (by kernel_rfl) (fun _ _ _ h => h) (Or.inl ⟨by rfl, ?_⟩) hHeld ?_
          rotate_left
          · (intro w hSw; (try dsimp only at hSw); go_simp; all_goals with_reducible rfl)
          try simp only [Act.put, List.getElem_toArray, List.getElem_cons_zero, List.getElem_cons_succ, List.setIfInBounds_toArray, List.set_cons_zero, List.set_cons_succ]
          refine wpAnyH_take (i := 11) (v := ?_) rfl (by kernel_rfl) (by kernel_rfl) (by kernel_rfl) (fun _ _ _ h => h) (Or.inl ⟨by rfl, ?_⟩) hHeld ?_
          rotate_left
          · (intro w hSw; (try dsimp only at hSw); go_simp; all_goals with_reducible rfl)
          try simp only [Act.put, List.getElem_toArray, List.getElem_cons_zero, List.getElem_cons_succ, List.setIfInBounds_toArray, List.set_cons_zero, List.set_cons_succ]
          refine wpAnyH_take (i := 12) (v := ?_) rfl (by kernel_rfl) (by kernel_rfl) (by kernel_rfl) (fun _ _ _ h => h) (Or.inl ⟨by rfl, ?_⟩) hHeld ?_
          rotate_left
          · (intro w hSw; (try dsimp only at hSw); go_simp; all_goals with_reducible rfl)
          try simp only [Act.put, List.getElem_toArray, List.getElem_cons_zero, List.getElem_cons_succ, List.setIfInBounds_toArray, List.set_cons_zero, List.set_cons_succ]
          refine wpAnyH_ready (rs := [13]) (by kernel_rfl) (by simp) ?_
          refine AllReadyH.cons rfl (fun K hK => ?_) AllReadyH.nil
          go_simp
          go_at_call 27
          (with_reducible refine (cR.out _ (HJL.out _ (by assumption))).mono ?_); rintro e w9 ⟨rfl, hb9⟩
          have hS9 := HJS.out _ _ (by assumption) (by assumption)
          refine hK.out _ _ hS9 (fun hHeld => ?_)
          clear hK K
          try simp only [Act.put, List.getElem_toArray, List.getElem_cons_zero, List.getElem_cons_succ, List.setIfInBounds_toArray, List.set_cons_zero, List.set_cons_succ]
          refine wpAnyH_take (i := 14) (v := ?_) rfl (by kernel_rfl) (by kernel_rfl) (by kernel_rfl) (fun _ _ _ h => h) (Or.inl ⟨by rfl, ?_⟩) hHeld ?_
          rotate_left
          · (intro w hSw; (try dsimp only at hSw); go_simp; all_goals with_reducible rfl)
          try simp only [Act.put, List.getElem_toArray, List.getElem_cons_zero, List.getElem_cons_succ, List.setIfInBounds_toArray, List.set_cons_zero, List.set_cons_succ]
          refine wpAnyH_take (i := 15) (v := ?_) rfl (by kernel_rfl) (by kernel_rfl) (by kernel_rfl) (fun _ _ _ h => h) (Or.inl ⟨by rfl, ?_⟩) hHeld ?_
          rotate_left
          · (intro w hSw; (try dsimp only at hSw); go_simp; all_goals with_reducible rfl)
          try simp only [Act.put, List.getElem_toArray, List.getElem_cons_zero, List.getElem_cons_succ, List.setIfInBounds_toArray, List.set_cons_zero, List.set_cons_succ]
          refine wpAnyH_take (i := 16) (v := ?_) rfl (by kernel_rfl) (by kernel_rfl) (by kernel_rfl) (fun _ _ _ h => h) (Or.inl ⟨by rfl, ?_⟩) hHeld ?_
          rotate_left
          · (intro w hSw; (try dsimp only at hSw); go_simp; all_goals with_reducible rfl)
          try simp only [Act.put, List.getElem_toArray, List.getElem_cons_zero, List.getElem_cons_succ, List.setIfInBounds_toArray, List.set_cons_zero, List.set_cons_succ]
          refine wpAnyH_take (i := 17) (v := ?_) rfl (by kernel_rfl) (by kernel_rfl) (by kernel_rfl) (fun _ _ _ h => h) (Or.inl ⟨by rfl, ?_⟩) hHeld ?_
          rotate_left
          · (intro w hSw; (try dsimp only at hSw); go_simp; all_goals with_reducible rfl)
          try simp only [Act.put, List.getElem_toArray, List.getElem_cons_zero, List.getElem_cons_succ, List.setIfInBounds_toArray, List.set_cons_zero, List.set_cons_succ]
          refine wpAnyH_take (i := 18) (v := ?_) rfl (by kernel_rfl) (by kernel_rfl) (by kernel_rfl) (fun _ _ _ h => h) (Or.inl ⟨by rfl, ?_⟩) hHeld ?_
          rotate_left
          · (intro w hSw; (try dsimp only at hSw); go_simp; all_goals with_reducible rfl)
          try simp only [Act.put, List.getElem_toArray, List.getElem_cons_zero, List.getElem_cons_succ, List.setIfInBounds_toArray, List.set_cons_zero, List.set_cons_succ]
          refine wpAnyH_take (i := 19) (v := ?_) rfl (by kernel_rfl) (by kernel_rfl) (by kernel_rfl) (fun _ _ _ h => h) (Or.inl ⟨by rfl, ?_⟩) hHeld ?_
          rotate_left
          · (intro w hSw; (try dsimp only at hSw); go_simp; all_goals with_reducible rfl)
          try simp only [Act.put, List.getElem_toArray, List.getElem_cons_zero, List.getElem_cons_succ, List.setIfInBounds_toArray, List.set_cons_zero, List.set_cons_succ]
          refine wpAnyH_take (i := 20) (v := undef) rfl (by kernel_rfl) (by kernel_rfl) (by kernel_rfl) (fun _ _ _ h => h) (Or.inr ⟨by rfl, rfl⟩) hHeld ?_
          try simp only [Act.put, List.getElem_toArray, List.getElem_cons_zero, List.getElem_cons_succ, List.setIfInBounds_toArray, List.set_cons_zero, List.set_cons_succ]
          refine wpAnyH_take (i := 21) (v := undef) rfl (by kernel_rfl) (by kernel_rfl) (by kernel_rfl) (fun _ _ _ h => h) (Or.inr ⟨by rfl, rfl⟩) hHeld ?_
          try simp only [Act.put, List.getElem_toArray, List.getElem_cons_zero, List.getElem_cons_succ, List.setIfInBounds_toArray, List.set_cons_zero, List.set_cons_succ]
          refine wpAnyH_take (i := 22) (v := undef) rfl (by kernel_rfl) (by kernel_rfl) (by kernel_rfl) (fun _ _ _ h => h) (Or.inr ⟨by rfl, rfl⟩) hHeld ?_
          try simp only [Act.put, List.getElem_toArray, List.getElem_cons_zero, List.getElem_cons_succ, List.setIfInBounds_toArray, List.set_cons_zero, List.set_cons_succ]
          refine wpAnyH_take (i := 23) (v := undef) rfl (by kernel_rfl) (by kernel_rfl) (by kernel_rfl) (fun _ _ _ h => h) (Or.inr ⟨by rfl, rfl⟩) hHeld ?_
          try simp only [Act.put, List.getElem_toArray, List.getElem_cons_zero, List.getElem_cons_succ, List.setIfInBounds_toArray, List.set_cons_zero, List.set_cons_succ]
          refine wpAnyH_take (i := 24) (v := undef) rfl (by kernel_rfl) (by kernel_rfl) (by kernel_rfl) (fun _ _ _ h => h) (Or.inr ⟨by rfl, rfl⟩) hHeld ?_
          try simp only [Act.put, List.getElem_toArray, List.getElem_cons_zero, List.getElem_cons_succ, List.setIfInBounds_toArray, List.set_cons_zero, List.set_cons_succ]
          refine wpAnyH_take (i := 25) (v := undef) rfl (by kernel_rfl) (by kernel_rfl) (by kernel_rfl) (fun _ _ _ h => h) (Or.inr ⟨by rfl, rfl⟩) hHeld ?_
          try simp only [Act.put, List.getElem_toArray, List.getElem_cons_zero, List.getElem_cons_succ, List.setIfInBounds_toArray, List.set_cons_zero, List.set_cons_succ]
          refine wpAnyH_take (i := 26) (v := undef) rfl (by kernel_rfl) (by kernel_rfl) (by kernel_rfl) (fun _ _ _ h => h) (Or.inr ⟨by rfl, rfl⟩) hHeld ?_
          try simp only [Act.put, List.getElem_toArray, List.getElem_cons_zero, List.getElem_cons_succ, List.setIfInBounds_toArray, List.set_cons_zero, List.set_cons_succ]
          refine wpAnyH_take (i := 27) (v := undef) rfl (by kernel_rfl) (by kernel_rfl) (by kernel_rfl) (fun _ _ _ h => h) (Or.inr ⟨by rfl, rfl⟩) hHeld ?_
          try simp only [Act.put, List.getElem_toArray, List.getElem_cons_zero, List.getElem_cons_succ, List.setIfInBounds_toArray, List.set_cons_zero, List.set_cons_succ]
          refine wpAnyH_take (i := 28) (v := undef) rfl (by kernel_rfl) (by kernel_rfl) (by kernel_rfl) (fun _ _ _ h => h) (Or.inr ⟨by rfl, rfl⟩) hHeld ?_
          try simp only [Act.put, List.getElem_toArray, List.getElem_cons_zero, List.getElem_cons_succ, List.setIfInBounds_toArray, List.set_cons_zero, List.set_cons_succ]
          refine wpAnyH_take (i := 29) (v := undef) rfl (by kernel_rfl) (by kernel_rfl) (by kernel_rfl) (fun _ _ _ h => h) (Or.inr ⟨by rfl, rfl⟩) hHeld ?_
          try simp only [Act.put, List.getElem_toArray, List.getElem_cons_zero, List.getElem_cons_succ, List.setIfInBounds_toArray, List.set_cons_zero, List.set_cons_succ]
          refine wpAnyH_take (i := 30) (v := undef) rfl (by kernel_rfl) (by kernel_rfl) (by kernel_rfl) (fun _ _ _ h => h) (Or.inr ⟨by rfl, rfl⟩) hHeld ?_
          try simp only [Act.put, List.getElem_toArray, List.getElem_cons_zero, List.getElem_cons_succ, List.setIfInBounds_toArray, List.set_cons_zero, List.set_cons_succ]
          refine wpAnyH_take (i := 31) (v := undef) rfl (by kernel_rfl) (by kernel_rfl) (by kernel_rfl) (fun _ _ _ h => h) (Or.inr ⟨by rfl, rfl⟩) hHeld ?_
          try simp only [Act.put, List.getElem_toArray, List.getElem_cons_zero, List.getElem_cons_succ, List.setIfInBounds_toArray, List.set_cons_zero, List.set_cons_succ]
          refine wpAnyH_take (i := 32) (v := undef) rfl (by kernel_rfl) (by kernel_rfl) (by kernel_rfl) (fun _ _ _ h => h) (Or.inr ⟨by rfl, rfl⟩) hHeld ?_
          try simp only [Act.put, List.getElem_toArray, List.getElem_cons_zero, List.getElem_cons_succ, List.setIfInBounds_toArray, List.set_cons_zero, List.set_cons_succ]
          refine wpAnyH_take (i := 33) (v := undef) rfl (by kernel_rfl) (by kernel_rfl) (by kernel_rfl) (fun _ _ _ h => h) (Or.inr ⟨by rfl, rfl⟩) hHeld ?_
          try simp only [Act.put, List.getElem_toArray, List.getElem_cons_zero, List.getElem_cons_succ, List.setIfInBounds_toArray, List.set_cons_zero, List.set_cons_succ]
          refine wpAnyH_take (i := 34) (v := undef) rfl (by kernel_rfl) (by kernel_rfl) (by kernel_rfl) (fun _ _ _ h => h) (Or.inr ⟨by rfl, rfl⟩) hHeld ?_
          try simp only [Act.put, List.getElem_toArray, List.getElem_cons_zero, List.getElem_cons_succ, List.setIfInBounds_toArray, List.set_cons_zero, List.set_cons_succ]
          refine wpAnyH_take (i := 35) (v := ?_) rfl (by kernel_rfl) (by kernel_rfl) (by kernel_rfl) (fun _ _ _ h => h) (Or.inl ⟨by rfl, ?_⟩) hHeld ?_
          rotate_left
          · (intro w hSw; (try dsimp only at hSw); go_simp; all_goals with_reducible rfl)
          try simp only [Act.put, List.getElem_toArray, List.getElem_cons_zero, List.getElem_cons_succ, List.setIfInBounds_toArray, List.set_cons_zero, List.set_cons_succ]
          refine wpAnyH_take (i := 36) (v := ?_) rfl (by kernel_rfl) (by kernel_rfl) (by kernel_rfl) (fun _ _ _ h => h) (Or.inl ⟨by rfl, ?_⟩) hHeld ?_
          rotate_left
          · (intro w hSw; (try dsimp only at hSw); go_simp; all_goals with_reducible rfl)
          try simp only [Act.put, List.getElem_toArray, List.getElem_cons_zero, List.getElem_cons_succ, List.setIfInBounds_toArray, List.set_cons_zero, List.set_cons_succ]
          refine wpAnyH_take (i := 37) (v := ?_) rfl (by kernel_rfl) (by kernel_rfl) (by kernel_rfl) (fun _ _ _ h => h) (Or.inl ⟨by rfl, ?_⟩) hHeld ?_
          rotate_left
          · (intro w hSw; (try dsimp only at hSw); go_simp; all_goals with_reducible rfl)
          try simp only [Act.put, List.getElem_toArray, List.getElem_cons_zero, List.getElem_cons_succ, List.setIfInBounds_toArray, List.set_cons_zero, List.set_cons_succ]
          refine wpAnyH_done (by kernel_rfl) ?_ _
          have HB9 := Lib.hid (HB8.out.trans ((HJL.out _ (by assumption)).mono HB8.out.size))
          go_wp2_with fail
          go_ret
          exact ⟨by first | (simp; done) | (simp; rfl), HB9.out⟩
        · rw [hr1] at hrun ⊢
          obtain ⟨rd, rfl, hrb, u0, u1⟩ := run_at hrun (Below.refl _ _) 0 (by simp)
          simp only [Nat.zero_mul, add_zero_, List.getElem_cons_zero] at u0 u1
          have hw16 : IntKind.i64.wrap (s + (16 - s)) = 16 := by rw [show s + (16 - s) = 16 by omega]; rfl
          have hss : s + (16 - s) = 16 := by omega
          clear hrun
          try clear HR0; try clear H0; try clear HRW; try clear hmP; try clear HU; try clear HB3; try clear HR3; try clear HN; try clear HC5; try clear HB5; try clear HR5; try clear HT5; try clear HS4; try clear HLT; try clear HQ; try clear HRG; try clear HF2; try clear HPF; try clear HI0; try clear HI; try clear HCR; try clear HTR; try clear HB; try clear HM; try clear H16; try clear HN2; try clear HBL; try clear HC7; try clear HU7; try clear HR7; try clear HV7; try clear HB7; try clear HR8; try clear HC8; try clear HV8; try clear HU8; try clear HE; try clear HPR; try clear c1; try clear hw0'; try clear hw5'; try clear hw7'; try clear f3; try clear hnl; try clear hn9; try clear hnd; try clear hnd2; try clear hq8; try clear hlt; try clear hqn; try clear hq; try clear d0; try clear d1; try clear d2; try clear d3
          have HZ0 := Lib.hid (show Below w8.heap.size w8 w8 ∧ w8.cell? ⟨w.heap.size, 0, none⟩ = some (.int .i64 K.major) ∧ w8.cell? ⟨w.heap.size, 1, none⟩ = some (.int .i64 K.minor) ∧ w8.cell? ⟨w.heap.size, 2, none⟩ = some (.slice K.eA K.ex.length K.eC) ∧ w8.cell? ⟨w.heap.size, 3, none⟩ = some (.slice A' L.length c') ∧ w8.cell? ⟨w4.heap.size, 0, none⟩ = some (.int .i64 k4.major) ∧ w8.cell? ⟨w4.heap.size, 1, none⟩ = some (.int .i64 k4.minor) ∧ w8.cell? ⟨w4.heap.size, 2, none⟩ = some (.slice k4.eA k4.ex.length k4.eC) ∧ w8.cell? ⟨w4.heap.size, 3, none⟩ = some (.slice A4 l4.length n4) ∧ w8.cell? rd = some (.int .i64 s) ∧ w8.cell? ⟨rd.block, rd.off + 1, none⟩ = some (.int .i64 (16 - s)) from ⟨Below.refl _ _, by assumption, by assumption, by assumption, by assumption, by assumption, by assumption, by assumption, by assumption, by assumption, by assumption⟩)
          have HZD := Lib.hid (show ∀ W' : World, (Below w8.heap.size w8 W' ∧ W'.cell? ⟨w.heap.size, 0, none⟩ = some (.int .i64 K.major) ∧ W'.cell? ⟨w.heap.size, 1, none⟩ = some (.int .i64 K.minor) ∧ W'.cell? ⟨w.heap.size, 2, none⟩ = some (.slice K.eA K.ex.length K.eC) ∧ W'.cell? ⟨w.heap.size, 3, none⟩ = some (.slice A' L.length c') ∧ W'.cell? ⟨w4.heap.size, 0, none⟩ = some (.int .i64 k4.major) ∧ W'.cell? ⟨w4.heap.size, 1, none⟩ = some (.int .i64 k4.minor) ∧ W'.cell? ⟨w4.heap.size, 2, none⟩ = some (.slice k4.eA k4.ex.length k4.eC) ∧ W'.cell? ⟨w4.heap.size, 3, none⟩ = some (.slice A4 l4.length n4) ∧ W'.cell? rd = some (.int .i64 s) ∧ W'.cell? ⟨rd.block, rd.off + 1, none⟩ = some (.int .i64 (16 - s))) → (Below w8.heap.size w8 W'.drew ∧ W'.drew.cell? ⟨w.heap.size, 0, none⟩ = some (.int .i64 K.major) ∧ W'.drew.cell? ⟨w.heap.size, 1, none⟩ = some (.int .i64 K.minor) ∧ W'.drew.cell? ⟨w.heap.size, 2, none⟩ = some (.slice K.eA K.ex.length K.eC) ∧ W'.drew.cell? ⟨w.heap.size, 3, none⟩ = some (.slice A' L.length c') ∧ W'.drew.cell? ⟨w4.heap.size, 0, none⟩ = some (.int .i64 k4.major) ∧ W'.drew.cell? ⟨w4.heap.size, 1, none⟩ = some (.int .i64 k4.minor) ∧ W'.drew.cell? ⟨w4.heap.size, 2, none⟩ = some (.slice k4.eA k4.ex.length k4.eC) ∧ W'.drew.cell? ⟨w4.heap.size, 3, none⟩ = some (.slice A4 l4.length n4) ∧ W'.drew.cell? rd = some (.int .i64 s) ∧ W'.drew.cell? ⟨rd.block, rd.off + 1, none⟩ = some (.int .i64 (16 - s))) from fun W' ⟨b, a0, a1, a2, a3, a4, a5, a6, a7, a8, a9⟩ => ⟨b.drew, a0, a1, a2, a3, a4, a5, a6, a7, a8, a9⟩)
          have HZS := Lib.hid (show ∀ W' W2 : World, (Below w8.heap.size w8 W' ∧ W'.cell? ⟨w.heap.size, 0, none⟩ = some (.int .i64 K.major) ∧ W'.cell? ⟨w.heap.size, 1, none⟩ = some (.int .i64 K.minor) ∧ W'.cell? ⟨w.heap.size, 2, none⟩ = some (.slice K.eA K.ex.length K.eC) ∧ W'.cell? ⟨w.heap.size, 3, none⟩ = some (.slice A' L.length c') ∧ W'.cell? ⟨w4.heap.size, 0, none⟩ = some (.int .i64 k4.major) ∧ W'.cell? ⟨w4.heap.size, 1, none⟩ = some (.int .i64 k4.minor) ∧ W'.cell? ⟨w4.heap.size, 2, none⟩ = some (.slice k4.eA k4.ex.length k4.eC) ∧ W'.cell? ⟨w4.heap.size, 3, none⟩ = some (.slice A4 l4.length n4) ∧ W'.cell? rd = some (.int .i64 s) ∧ W'.cell? ⟨rd.block, rd.off + 1, none⟩ = some (.int .i64 (16 - s))) → Below W'.heap.size W' W2 → (Below w8.heap.size w8 W2 ∧ W2.cell? ⟨w.heap.size, 0, none⟩ = some (.int .i64 K.major) ∧ W2.cell? ⟨w.heap.size, 1, none⟩ = some (.int .i64 K.minor) ∧ W2.cell? ⟨w.heap.size, 2, none⟩ = some (.slice K.eA K.ex.length K.eC) ∧ W2.cell? ⟨w.heap.size, 3, none⟩ = some (.slice A' L.length c') ∧ W2.cell? ⟨w4.heap.size, 0, none⟩ = some (.int .i64 k4.major) ∧ W2.cell? ⟨w4.heap.size, 1, none⟩ = some (.int .i64 k4.minor) ∧ W2.cell? ⟨w4.heap.size, 2, none⟩ = some (.slice k4.eA k4.ex.length k4.eC) ∧ W2.cell? ⟨w4.heap.size, 3, none⟩ = some (.slice A4 l4.length n4) ∧ W2.cell? rd = some (.int .i64 s) ∧ W2.cell? ⟨rd.block, rd.off + 1, none⟩ = some (.int .i64 (16 - s))) from fun W' W2 ⟨b, a0, a1, a2, a3, a4, a5, a6, a7, a8, a9⟩ hb => have s := b.size; ⟨b.trans (hb.mono s), (hb.cell (by first | omega | (simp; omega) | (simp only [block_of_add]; omega))).trans a0, (hb.cell (by first | omega | (simp; omega) | (simp only [block_of_add]; omega))).trans a1, (hb.cell (by first | omega | (simp; omega) | (simp only [block_of_add]; omega))).trans a2, (hb.cell (by first | omega | (simp; omega) | (simp only [block_of_add]; omega))).trans a3, (hb.cell (by first | omega | (simp; omega) | (simp only [block_of_add]; omega))).trans a4, (hb.cell (by first | omega | (simp; omega) | (simp only [block_of_add]; omega))).trans a5, (hb.cell (by first | omega | (simp; omega) | (simp only [block_of_add]; omega))).trans a6, (hb.cell (by first | omega | (simp; omega) | (simp only [block_of_add]; omega))).trans a7, (hb.cell (by first | omega | (simp; omega) | (simp only [block_of_add]; omega))).trans a8, (hb.cell (by first | omega | (simp; omega) | (simp only [block_of_add]; omega))).trans a9⟩)
          have HZA := Lib.hid (show ∀ (W' : World) (o : Obj), (Below w8.heap.size w8 W' ∧ W'.cell? ⟨w.heap.size, 0, none⟩ = some (.int .i64 K.major) ∧ W'.cell? ⟨w.heap.size, 1, none⟩ = some (.int .i64 K.minor) ∧ W'.cell? ⟨w.heap.size, 2, none⟩ = some (.slice K.eA K.ex.length K.eC) ∧ W'.cell? ⟨w.heap.size, 3, none⟩ = some (.slice A' L.length c') ∧ W'.cell? ⟨w4.heap.size, 0, none⟩ = some (.int .i64 k4.major) ∧ W'.cell? ⟨w4.heap.size, 1, none⟩ = some (.int .i64 k4.minor) ∧ W'.cell? ⟨w4.heap.size, 2, none⟩ = some (.slice k4.eA k4.ex.length k4.eC) ∧ W'.cell? ⟨w4.heap.size, 3, none⟩ = some (.slice A4 l4.length n4) ∧ W'.cell? rd = some (.int .i64 s) ∧ W'.cell? ⟨rd.block, rd.off + 1, none⟩ = some (.int .i64 (16 - s))) → (Below w8.heap.size w8 (W'.alloc o) ∧ (W'.alloc o).cell? ⟨w.heap.size, 0, none⟩ = some (.int .i64 K.major) ∧ (W'.alloc o).cell? ⟨w.heap.size, 1, none⟩ = some (.int .i64 K.minor) ∧ (W'.alloc o).cell? ⟨w.heap.size, 2, none⟩ = some (.slice K.eA K.ex.length K.eC) ∧ (W'.alloc o).cell? ⟨w.heap.size, 3, none⟩ = some (.slice A' L.length c') ∧ (W'.alloc o).cell? ⟨w4.heap.size, 0, none⟩ = some (.int .i64 k4.major) ∧ (W'.alloc o).cell? ⟨w4.heap.size, 1, none⟩ = some (.int .i64 k4.minor) ∧ (W'.alloc o).cell? ⟨w4.heap.size, 2, none⟩ = some (.slice k4.eA k4.ex.length k4.eC) ∧ (W'.alloc o).cell? ⟨w4.heap.size, 3, none⟩ = some (.slice A4 l4.length n4) ∧ (W'.alloc o).cell? rd = some (.int .i64 s) ∧ (W'.alloc o).cell? ⟨rd.block, rd.off + 1, none⟩ = some (.int .i64 (16 - s))) from fun W' o hc => HZS.out W' (W'.alloc o) hc ((Below.refl _ _).alloc (Nat.le_refl _) o))
          have HZX := Lib.hid (show ∀ (W' : World) (bX oX : Nat) (vX : Value), w8.heap.size ≤ bX → (Below w8.heap.size w8 W' ∧ W'.cell? ⟨w.heap.size, 0, none⟩ = some (.int .i64 K.major) ∧ W'.cell? ⟨w.heap.size, 1, none⟩ = some (.int .i64 K.minor) ∧ W'.cell? ⟨w.heap.size, 2, none⟩ = some (.slice K.eA K.ex.length K.eC) ∧ W'.cell? ⟨w.heap.size, 3, none⟩ = some (.slice A' L.length c') ∧ W'.cell? ⟨w4.heap.size, 0, none⟩ = some (.int .i64 k4.major) ∧ W'.cell? ⟨w4.heap.size, 1, none⟩ = some (.int .i64 k4.minor) ∧ W'.cell? ⟨w4.heap.size, 2, none⟩ = some (.slice k4.eA k4.ex.length k4.eC) ∧ W'.cell? ⟨w4.heap.size, 3, none⟩ = some (.slice A4 l4.length n4) ∧ W'.cell? rd = some (.int .i64 s) ∧ W'.cell? ⟨rd.block, rd.off + 1, none⟩ = some (.int .i64 (16 - s))) → (Below w8.heap.size w8 (W'.setCell ⟨bX, oX, none⟩ vX) ∧ (W'.setCell ⟨bX, oX, none⟩ vX).cell? ⟨w.heap.size, 0, none⟩ = some (.int .i64 K.major) ∧ (W'.setCell ⟨bX, oX, none⟩ vX).cell? ⟨w.heap.size, 1, none⟩ = some (.int .i64 K.minor) ∧ (W'.setCell ⟨bX, oX, none⟩ vX).cell? ⟨w.heap.size, 2, none⟩ = some (.slice K.eA K.ex.length K.eC) ∧ (W'.setCell ⟨bX, oX, none⟩ vX).cell? ⟨w.heap.size, 3, none⟩ = some (.slice A' L.length c') ∧ (W'.setCell ⟨bX, oX, none⟩ vX).cell? ⟨w4.heap.size, 0, none⟩ = some (.int .i64 k4.major) ∧ (W'.setCell ⟨bX, oX, none⟩ vX).cell? ⟨w4.heap.size, 1, none⟩ = some (.int .i64 k4.minor) ∧ (W'.setCell ⟨bX, oX, none⟩ vX).cell? ⟨w4.heap.size, 2, none⟩ = some (.slice k4.eA k4.ex.length k4.eC) ∧ (W'.setCell ⟨bX, oX, none⟩ vX).cell? ⟨w4.heap.size, 3, none⟩ = some (.slice A4 l4.length n4) ∧ (W'.setCell ⟨bX, oX, none⟩ vX).cell? rd = some (.int .i64 s) ∧ (W'.setCell ⟨bX, oX, none⟩ vX).cell? ⟨rd.block, rd.off + 1, none⟩ = some (.int .i64 (16 - s))) from fun W' bX oX vX hbX ⟨b, a0, a1, a2, a3, a4, a5, a6, a7, a8, a9⟩ => ⟨b.setCell (p := ⟨bX, oX, none⟩) hbX vX, (((Below.refl _ _).setCell (p := ⟨bX, oX, none⟩) hbX vX).cell (by first | omega | (simp; omega) | (simp only [block_of_add]; omega))).trans a0, (((Below.refl _ _).setCell (p := ⟨bX, oX, none⟩) hbX vX).cell (by first | omega | (simp; omega) | (simp only [block_of_add]; omega))).trans a1, (((Below.refl _ _).setCell (p := ⟨bX, oX, none⟩) hbX vX).cell (by first | omega | (simp; omega) | (simp only [block_of_add]; omega))).trans a2, (((Below.refl _ _).setCell (p := ⟨bX, oX, none⟩) hbX vX).cell (by first | omega | (simp; omega) | (simp only [block_of_add]; omega))).trans a3, (((Below.refl _ _).setCell (p := ⟨bX, oX, none⟩) hbX vX).cell (by first | omega | (simp; omega) | (simp only [block_of_add]; omega))).trans a4, (((Below.refl _ _).setCell (p := ⟨bX, oX, none⟩) hbX vX).cell (by first | omega | (simp; omega) | (simp only [block_of_add]; omega))).trans a5, (((Below.refl _ _).setCell (p := ⟨bX, oX, none⟩) hbX vX).cell (by first | omega | (simp; omega) | (simp only [block_of_add]; omega))).trans a6, (((Below.refl _ _).setCell (p := ⟨bX, oX, none⟩) hbX vX).cell (by first | omega | (simp; omega) | (simp only [block_of_add]; omega))).trans a7, (((Below.refl _ _).setCell (p := ⟨bX, oX, none⟩) hbX vX).cell (by first | omega | (simp; omega) | (simp only [block_of_add]; omega))).trans a8, (((Below.refl _ _).setCell (p := ⟨bX, oX, none⟩) hbX vX).cell (by first | omega | (simp; omega) | (simp only [block_of_add]; omega))).trans a9⟩)
          have HZL := Lib.hid (show ∀ W' : World, (Below w8.heap.size w8 W' ∧ W'.cell? ⟨w.heap.size, 0, none⟩ = some (.int .i64 K.major) ∧ W'.cell? ⟨w.heap.size, 1, none⟩ = some (.int .i64 K.minor) ∧ W'.cell? ⟨w.heap.size, 2, none⟩ = some (.slice K.eA K.ex.length K.eC) ∧ W'.cell? ⟨w.heap.size, 3, none⟩ = some (.slice A' L.length c') ∧ W'.cell? ⟨w4.heap.size, 0, none⟩ = some (.int .i64 k4.major) ∧ W'.cell? ⟨w4.heap.size, 1, none⟩ = some (.int .i64 k4.minor) ∧ W'.cell? ⟨w4.heap.size, 2, none⟩ = some (.slice k4.eA k4.ex.length k4.eC) ∧ W'.cell? ⟨w4.heap.size, 3, none⟩ = some (.slice A4 l4.length n4) ∧ W'.cell? rd = some (.int .i64 s) ∧ W'.cell? ⟨rd.block, rd.off + 1, none⟩ = some (.int .i64 (16 - s))) → Below w8.heap.size w8 W' from fun W' hc => hc.1)
          go_wp2_with fail
          refine wp_region_held_drew (S := fun W' => Below w8.heap.size w8 W' ∧ W'.cell? ⟨w.heap.size, 0, none⟩ = some (.int .i64 K.major) ∧ W'.cell? ⟨w.heap.size, 1, none⟩ = some (.int .i64 K.minor) ∧ W'.cell? ⟨w.heap.size, 2, none⟩ = some (.slice K.eA K.ex.length K.eC) ∧ W'.cell? ⟨w.heap.size, 3, none⟩ = some (.slice A' L.length c') ∧ W'.cell? ⟨w4.heap.size, 0, none⟩ = some (.int .i64 k4.major) ∧ W'.cell? ⟨w4.heap.size, 1, none⟩ = some (.int .i64 k4.minor) ∧ W'.cell? ⟨w4.heap.size, 2, none⟩ = some (.slice k4.eA k4.ex.length k4.eC) ∧ W'.cell? ⟨w4.heap.size, 3, none⟩ = some (.slice A4 l4.length n4) ∧ W'.cell? rd = some (.int .i64 s) ∧ W'.cell? ⟨rd.block, rd.off + 1, none⟩ = some (.int .i64 (16 - s))) (by kernel_rfl) (HZD.out _ HZ0.out) (fun hHeld => ?_)
          refine wpAnyH_take (i := 0) (v := ?_) rfl (by kernel_rfl) (by kernel_rfl) (by kernel_rfl) (fun _ _ _ h => h) (Or.inl ⟨by rfl, ?_⟩) hHeld ?_
          rotate_left
          · (intro w hSw; (try dsimp only at hSw); go_simp; all_goals with_reducible rfl)
          try simp only [Act.put, List.getElem_toArray, List.getElem_cons_zero, List.setIfInBounds_toArray, List.set_cons_zero, List.set_cons_succ]
          refine wpAnyH_take (i := 1) (v := ?_) rfl (by kernel_rfl) (by kernel_rfl) (by kernel_rfl) (fun _ _ _ h => h) (Or.inl ⟨by rfl, ?_⟩) hHeld ?_
          rotate_left
          · (intro w hSw; (try dsimp only at hSw); go_simp; all_goals with_reducible rfl)
          try simp only [Act.put, List.getElem_toArray, List.getElem_cons_zero, List.getElem_cons_succ, List.setIfInBounds_toArray, List.set_cons_zero, List.set_cons_succ]
          refine wpAnyH_take (i := 2) (v := ?_) rfl (by kernel_rfl) (by kernel_rfl) (by kernel_rfl) (fun _ _ _ h => h) (Or.inl ⟨by rfl, ?_⟩) hHeld ?_
          rotate_left
          · (intro w hSw; (try dsimp only at hSw); go_simp; all_goals with_reducible rfl)
          try simp only [Act.put, List.getElem_toArray, List.getElem_cons_zero, List.getElem_cons_succ, List.setIfInBounds_toArray, List.set_cons_zero, List.set_cons_succ]
          refine wpAnyH_take (i := 3) (v := ?_) rfl (by kernel_rfl) (by kernel_rfl) (by kernel_rfl) (fun _ _ _ h => h) (Or.inl ⟨by rfl, ?_⟩) hHeld ?_
          rotate_left
          · (intro w hSw; (try dsimp only at hSw); go_simp; all_goals with_reducible rfl)
          try simp only [Act.put, List.getElem_toArray, List.getElem_cons_zero, List.getElem_cons_succ, List.setIfInBounds_toArray, List.set_cons_zero, List.set_cons_succ]
          refine wpAnyH_take (i := 4) (v := ?_) rfl (by kernel_rfl) (by kernel_rfl) (by kernel_rfl) (fun _ _ _ h => h) (Or.inl ⟨by rfl, ?_⟩) hHeld ?_
          rotate_left
          · (intro w hSw; (try dsimp only at hSw); go_simp; all_goals with_reducible rfl)
          try simp only [Act.put, List.getElem_toArray, List.getElem_cons_zero, List.getElem_cons_succ, List.setIfInBounds_toArray, List.set_cons_zero, List.set_cons_succ]
          refine wpAnyH_take (i := 5) (v := ?_) rfl (by kernel_rfl) (by kernel_rfl) (by kernel_rfl) (fun _ _ _ h => h) (Or.inl ⟨by rfl, ?_⟩) hHeld ?_
          rotate_left
          · (intro w hSw; (try dsimp only at hSw); go_simp; all_goals with_reducible rfl)
          try simp only [Act.put, List.getElem_toArray, List.getElem_cons_zero, List.getElem_cons_succ, List.setIfInBounds_toArray, List.set_cons_zero, List.set_cons_succ]
          refine wpAnyH_take (i := 6) (v := ?_) rfl (by kernel_rfl) (by kernel_rfl) (by kernel_rfl) (fun _ _ _ h => h) (Or.inl ⟨by rfl, ?_⟩) hHeld ?_
          rotate_left
          · (intro w hSw; (try dsimp only at hSw); go_simp; all_goals with_reducible rfl)
          try simp only [Act.put, List.getElem_toArray, List.getElem_cons_zero, List.getElem_cons_succ, List.setIfInBounds_toArray, List.set_cons_zero, List.set_cons_succ]
          refine wpAnyH_take (i := 7) (v := ?_) rfl (by kernel_rfl) (by kernel_rfl) (by kernel_rfl) (fun _ _ _ h => h) (Or.inl ⟨by rfl, ?_⟩) hHeld ?_
          rotate_left
          · (intro w hSw; (try dsimp only at hSw); go_simp; all_goals with_reducible rfl)
          try simp only [Act.put, List.getElem_toArray, List.getElem_cons_zero, List.getElem_cons_succ, List.setIfInBounds_toArray, List.set_cons_zero, List.set_cons_succ]
          refine wpAnyH_take (i := 8) (v := ?_) rfl (by kernel_rfl) (by kernel_rfl) (by kernel_rfl) (fun _ _ _ h => h) (Or.inl ⟨by rfl, ?_⟩) hHeld ?_
          rotate_left
          · (intro w hSw; (try dsimp only at hSw); go_simp; all_goals with_reducible rfl)
          try simp only [Act.put, List.getElem_toArray, List.getElem_cons_zero, List.getElem_cons_succ, List.setIfInBounds_toArray, List.set_cons_zero, List.set_cons_succ]
          refine wpAnyH_take (i := 9) (v := ?_) rfl (by kernel_rfl) (by kernel_rfl) (by kernel_rfl) (fun _ _ _ h => h) (Or.inl ⟨by rfl, ?_⟩) hHeld ?_
          rotate_left
          · (intro w hSw; (try dsimp only at hSw); go_simp; all_goals with_reducible rfl)
          try simp only [Act.put, List.getElem_toArray, List.getElem_cons_zero, List.getElem_cons_succ, List.setIfInBounds_toArray, List.set_cons_zero, List.set_cons_succ]
          refine wpAnyH_take (i := 10) (v := ?_) rfl (by kernel_rfl) (by kernel_rfl) (by kernel_rfl) (fun _ _ _ h => h) (Or.inl ⟨by rfl, ?_⟩) hHeld ?_
          rotate_left
          · (intro w hSw; (try dsimp only at hSw); go_simp; all_goals with_reducible rfl)
          try simp only [Act.put, List.getElem_toArray, List.getElem_cons_zero, List.getElem_cons_succ, List.setIfInBounds_toArray, List.set_cons_zero, List.set_cons_succ]
          refine wpAnyH_take (i := 11) (v := ?_) rfl (by kernel_rfl) (by kernel_rfl) (by kernel_rfl) (fun _ _ _ h => h) (Or.inl ⟨by rfl, ?_⟩) hHeld ?_
          rotate_left
          · (intro w hSw; (try dsimp only at hSw); go_simp; all_goals with_reducible rfl)
          try simp only [Act.put, List.getElem_toArray, List.getElem_cons_zero, List.getElem_cons_succ, List.setIfInBounds_toArray, List.set_cons_zero, List.set_cons_succ]
          refine wpAnyH_take (i := 12) (v := ?_) rfl (by kernel_rfl) (by kernel_rfl) (by kernel_rfl) (fun _ _ _ h => h) (Or.inl ⟨by rfl, ?_⟩) hHeld ?_
          rotate_left
          · (intro w hSw; (try dsimp only at hSw); go_simp; all_goals with_reducible rfl)
          try simp only [Act.put, List.getElem_toArray, List.getElem_cons_zero, List.getElem_cons_succ, List.setIfInBounds_toArray, List.set_cons_zero, List.set_cons_succ]
          refine wpAnyH_ready (rs := [13]) (by kernel_rfl) (by simp) ?_
          refine AllReadyH.cons rfl (fun K hK => ?_) AllReadyH.nil
          go_simp
          go_at_call 27
          (with_reducible refine (cR.out _ (HZL.out _ (by assumption))).mono ?_); rintro e w9 ⟨rfl, hb9⟩
          have hS9 := HZS.out _ _ (by assumption) (by assumption)
          refine hK.out _ _ hS9 (fun hHeld => ?_)
          clear hK K
          try simp only [Act.put, List.getElem_toArray, List.getElem_cons_zero, List.getElem_cons_succ, List.setIfInBounds_toArray, List.set_cons_zero, List.set_cons_succ]
          refine wpAnyH_take (i := 14) (v := ?_) rfl (by kernel_rfl) (by kernel_rfl) (by kernel_rfl) (fun _ _ _ h => h) (Or.inl ⟨by rfl, ?_⟩) hHeld ?_
          rotate_left
          · (intro w hSw; (try dsimp only at hSw); go_simp; all_goals with_reducible rfl)
          try simp only [Act.put, List.getElem_toArray, List.getElem_cons_zero, List.getElem_cons_succ, List.setIfInBounds_toArray, List.set_cons_zero, List.set_cons_succ]
          refine wpAnyH_take (i := 15) (v := ?_) rfl (by kernel_rfl) (by kernel_rfl) (by kernel_rfl) (fun _ _ _ h => h) (Or.inl ⟨by rfl, ?_⟩) hHeld ?_
          rotate_left
          · (intro w hSw; (try dsimp only at hSw); go_simp; all_goals with_reducible rfl)
          try simp only [Act.put, List.getElem_toArray, List.getElem_cons_zero, List.getElem_cons_succ, List.setIfInBounds_toArray, List.set_cons_zero, List.set_cons_succ]
          refine wpAnyH_take (i := 16) (v := ?_) rfl (by kernel_rfl) (by kernel_rfl) (by kernel_rfl) (fun _ _ _ h => h) (Or.inl ⟨by rfl, ?_⟩) hHeld ?_
          rotate_left
          · (intro w hSw; (try dsimp only at hSw); go_simp; all_goals with_reducible rfl)
          try simp only [Act.put, List.getElem_toArray, List.getElem_cons_zero, List.getElem_cons_succ, List.setIfInBounds_toArray, List.set_cons_zero, List.set_cons_succ]
          refine wpAnyH_take (i := 17) (v := ?_) rfl (by kernel_rfl) (by kernel_rfl) (by kernel_rfl) (fun _ _ _ h => h) (Or.inl ⟨by rfl, ?_⟩) hHeld ?_
          rotate_left
          · (intro w hSw; (try dsimp only at hSw); go_simp; all_goals with_reducible rfl)
          try simp only [Act.put, List.getElem_toArray, List.getElem_cons_zero, List.getElem_cons_succ, List.setIfInBounds_toArray, List.set_cons_zero, List.set_cons_succ]
          refine wpAnyH_take (i := 18) (v := ?_) rfl (by kernel_rfl) (by kernel_rfl) (by kernel_rfl) (fun _ _ _ h => h) (Or.inl ⟨by rfl, ?_⟩) hHeld ?_
          rotate_left
          · (intro w hSw; (try dsimp only at hSw); go_simp; all_goals with_reducible rfl)
          try simp only [Act.put, List.getElem_toArray, List.getElem_cons_zero, List.getElem_cons_succ, List.setIfInBounds_toArray, List.set_cons_zero, List.set_cons_succ]
          refine wpAnyH_take (i := 19) (v := ?_) rfl (by kernel_rfl) (by kernel_rfl) (by kernel_rfl) (fun _ _ _ h => h) (Or.inl ⟨by rfl, ?_⟩) hHeld ?_
          rotate_left
          · (intro w hSw; (try dsimp only at hSw); go_simp; all_goals with_reducible rfl)
          try simp only [Act.put, List.getElem_toArray, List.getElem_cons_zero, List.getElem_cons_succ, List.setIfInBounds_toArray, List.set_cons_zero, List.set_cons_succ]
          refine wpAnyH_take (i := 20) (v := ?_) rfl (by kernel_rfl) (by kernel_rfl) (by kernel_rfl) (fun _ _ _ h => h) (Or.inl ⟨by rfl, ?_⟩) hHeld ?_
          rotate_left
          · (intro w hSw; (try dsimp only at hSw); go_simp; all_goals with_reducible rfl)
          try simp only [Act.put, List.getElem_toArray, List.getElem_cons_zero, List.getElem_cons_succ, List.setIfInBounds_toArray, List.set_cons_zero, List.set_cons_succ]
          refine wpAnyH_take (i := 21) (v := ?_) rfl (by kernel_rfl) (by kernel_rfl) (by kernel_rfl) (fun _ _ _ h => h) (Or.inl ⟨by rfl, ?_⟩) hHeld ?_
          rotate_left
          · (intro w hSw; (try dsimp only at hSw); go_simp; all_goals with_reducible rfl)
          try simp only [Act.put, List.getElem_toArray, List.getElem_cons_zero, List.getElem_cons_succ, List.setIfInBounds_toArray, List.set_cons_zero, List.set_cons_succ]
          refine wpAnyH_take (i := 22) (v := ?_) rfl (by kernel_rfl) (by kernel_rfl) (by kernel_rfl) (fun _ _ _ h => h) (Or.inl ⟨by rfl, ?_⟩) hHeld ?_
          rotate_left
          · (intro w hSw; (try dsimp only at hSw); go_simp; all_goals with_reducible rfl)
          try simp only [Act.put, List.getElem_toArray, List.getElem_cons_zero, List.getElem_cons_succ, List.setIfInBounds_toArray, List.set_cons_zero, List.set_cons_succ]
          refine wpAnyH_take (i := 23) (v := ?_) rfl (by kernel_rfl) (by kernel_rfl) (by kernel_rfl) (fun _ _ _ h => h) (Or.inl ⟨by rfl, ?_⟩) hHeld ?_
          rotate_left
          · (intro w hSw; (try dsimp only at hSw); go_simp; all_goals with_reducible rfl)
          try simp only [Act.put, List.getElem_toArray, List.getElem_cons_zero, List.getElem_cons_succ, List.setIfInBounds_toArray, List.set_cons_zero, List.set_cons_succ]
          refine wpAnyH_take (i := 24) (v := ?_) rfl (by kernel_rfl) (by kernel_rfl) (by kernel_rfl) (fun _ _ _ h => h) (Or.inl ⟨by rfl, ?_⟩) hHeld ?_
          rotate_left
          · (intro w hSw; (try dsimp only at hSw); go_simp; all_goals with_reducible rfl)
          try simp only [Act.put, List.getElem_toArray, List.getElem_cons_zero, List.getElem_cons_succ, List.setIfInBounds_toArray, List.set_cons_zero, List.set_cons_succ]
          refine wpAnyH_take (i := 25) (v := ?_) rfl (by kernel_rfl) (by kernel_rfl) (by kernel_rfl) (fun _ _ _ h => h) (Or.inl ⟨by rfl, ?_⟩) hHeld ?_
          rotate_left
          · (intro w hSw; (try dsimp only at hSw); go_simp; all_goals with_reducible rfl)
          try simp only [Act.put, List.getElem_toArray, List.getElem_cons_zero, List.getElem_cons_succ, List.setIfInBounds_toArray, List.set_cons_zero, List.set_cons_succ]
          refine wpAnyH_take (i := 26) (v := ?_) rfl (by kernel_rfl) (by kernel_rfl) (by kernel_rfl) (fun _ _ _ h => h) (Or.inl ⟨by rfl, ?_⟩) hHeld ?_
          rotate_left
          · (intro w hSw; (try dsimp only at hSw); go_simp; all_goals with_reducible rfl)
          try simp only [Act.put, List.getElem_toArray, List.getElem_cons_zero, List.getElem_cons_succ, List.setIfInBounds_toArray, List.set_cons_zero, List.set_cons_succ]
          refine wpAnyH_take (i := 27) (v := ?_) rfl (by kernel_rfl) (by kernel_rfl) (by kernel_rfl) (fun _ _ _ h => h) (Or.inl ⟨by rfl, ?_⟩) hHeld ?_
          rotate_left
          · (intro w hSw; (try dsimp only at hSw); go_simp; all_goals with_reducible rfl)
          try simp only [Act.put, List.getElem_toArray, List.getElem_cons_zero, List.getElem_cons_succ, List.setIfInBounds_toArray, List.set_cons_zero, List.set_cons_succ]
          refine wpAnyH_take (i := 28) (v := ?_) rfl (by kernel_rfl) (by kernel_rfl) (by kernel_rfl) (fun _ _ _ h => h) (Or.inl ⟨by rfl, ?_⟩) hHeld ?_
          rotate_left
          · (intro w hSw; (try dsimp only at hSw); go_simp; all_goals with_reducible rfl)
          try simp only [Act.put, List.getElem_toArray, List.getElem_cons_zero, List.getElem_cons_succ, List.setIfInBounds_toArray, List.set_cons_zero, List.set_cons_succ]
          refine wpAnyH_take (i := 29) (v := ?_) rfl (by kernel_rfl) (by kernel_rfl) (by kernel_rfl) (fun _ _ _ h => h) (Or.inl ⟨by rfl, ?_⟩) hHeld ?_
          rotate_left
          · (intro w hSw; (try dsimp only at hSw); go_simp; all_goals with_reducible rfl)
          try simp only [Act.put, List.getElem_toArray, List.getElem_cons_zero, List.getElem_cons_succ, List.setIfInBounds_toArray, List.set_cons_zero, List.set_cons_succ]
          refine wpAnyH_take (i := 30) (v := ?_) rfl (by kernel_rfl) (by kernel_rfl) (by kernel_rfl) (fun _ _ _ h => h) (Or.inl ⟨by rfl, ?_⟩) hHeld ?_
          rotate_left
          · (intro w hSw; (try dsimp only at hSw); go_simp; all_goals with_reducible rfl)
          try simp only [Act.put, List.getElem_toArray, List.getElem_cons_zero, List.getElem_cons_succ, List.setIfInBounds_toArray, List.set_cons_zero, List.set_cons_succ]
          refine wpAnyH_take (i := 31) (v := ?_) rfl (by kernel_rfl) (by kernel_rfl) (by kernel_rfl) (fun _ _ _ h => h) (Or.inl ⟨by rfl, ?_⟩) hHeld ?_
          rotate_left
          · (intro w hSw; (try dsimp only at hSw); go_simp; all_goals with_reducible rfl)
          try simp only [Act.put, List.getElem_toArray, List.getElem_cons_zero, List.getElem_cons_succ, List.setIfInBounds_toArray, List.set_cons_zero, List.set_cons_succ]
          refine wpAnyH_take (i := 32) (v := ?_) rfl (by kernel_rfl) (by kernel_rfl) (by kernel_rfl) (fun _ _ _ h => h) (Or.inl ⟨by rfl, ?_⟩) hHeld ?_
          rotate_left
          · (intro w hSw; (try dsimp only at hSw); go_simp; all_goals with_reducible rfl)
          try simp only [Act.put, List.getElem_toArray, List.getElem_cons_zero, List.getElem_cons_succ, List.setIfInBounds_toArray, List.set_cons_zero, List.set_cons_succ]
          refine wpAnyH_take (i := 33) (v := ?_) rfl (by kernel_rfl) (by kernel_rfl) (by kernel_rfl) (fun _ _ _ h => h) (Or.inl ⟨by rfl, ?_⟩) hHeld ?_
          rotate_left
          · (intro w hSw; (try dsimp only at hSw); go_simp; all_goals with_reducible rfl)
          try simp only [Act.put, List.getElem_toArray, List.getElem_cons_zero, List.getElem_cons_succ, List.setIfInBounds_toArray, List.set_cons_zero, List.set_cons_succ]
          refine wpAnyH_take (i := 34) (v := ?_) rfl (by kernel_rfl) (by kernel_rfl) (by kernel_rfl) (fun _ _ _ h => h) (Or.inl ⟨by rfl, ?_⟩) hHeld ?_
          rotate_left
          · (intro w hSw; (try dsimp only at hSw); go_simp; all_goals with_reducible rfl)
          try simp only [Act.put, List.getElem_toArray, List.getElem_cons_zero, List.getElem_cons_succ, List.setIfInBounds_toArray, List.set_cons_zero, List.set_cons_succ]
          refine wpAnyH_take (i := 35) (v := ?_) rfl (by kernel_rfl) (by kernel_rfl) (by kernel_rfl) (fun _ _ _ h => h) (Or.inl ⟨by rfl, ?_⟩) hHeld ?_
          rotate_left
          · (intro w hSw; (try dsimp only at hSw); go_simp; all_goals with_reducible rfl)
          try simp only [Act.put, List.getElem_toArray, List.getElem_cons_zero, List.getElem_cons_succ, List.setIfInBounds_toArray, List.set_cons_zero, List.set_cons_succ]
          refine wpAnyH_take (i := 36) (v := ?_) rfl (by kernel_rfl) (by kernel_rfl) (by kernel_rfl) (fun _ _ _ h => h) (Or.inl ⟨by rfl, ?_⟩) hHeld ?_
          rotate_left
          · (intro w hSw; (try dsimp only at hSw); go_simp; all_goals with_reducible rfl)
          try simp only [Act.put, List.getElem_toArray, List.getElem_cons_zero, List.getElem_cons_succ, List.setIfInBounds_toArray, List.set_cons_zero, List.set_cons_succ]
          refine wpAnyH_take (i := 37) (v := ?_) rfl (by kernel_rfl) (by kernel_rfl) (by kernel_rfl) (fun _ _ _ h => h) (Or.inl ⟨by rfl, ?_⟩) hHeld ?_
          rotate_left
          · (intro w hSw; (try dsimp only at hSw); go_simp; all_goals with_reducible rfl)
          try simp only [Act.put, List.getElem_toArray, List.getElem_cons_zero, List.getElem_cons_succ, List.setIfInBounds_toArray, List.set_cons_zero, List.set_cons_succ]
          refine wpAnyH_done (by kernel_rfl) ?_ _
          have HB9 := Lib.hid (HB8.out.trans ((HZL.out _ (by assumption)).mono HB8.out.size))
          go_wp2_with fail
          go_ret
          exact ⟨by first | (simp; done) | (simp; rfl), HB9.out⟩
  · have t' : (E != 0) = true := by simp [t]
    have hn0 : n = 0 := by have := HN.out; rwa [if_pos t] at this
    have hl0 := (HS4.out.2 t).2
    subst hn0 hl0
    simp only [List.length_nil] at hw5' d3
    clear t
    go_wp2_with fail
    go_ret
    exact ⟨by simp, HB5.out⟩

end Go.Proofs.YtogckcjcebckgaaGreat
