import Derived.Test.YtogckcjcebckgaaGreatKPlanThere
import Derived.Test.YtogckcjcebckgaaGreatG08
import Derived.Test.YtogckcjcebckgaaGreatKShut
/- PlanBack: what is installed can be removed, and all is as it was; it can't be installed twice. No condition. -/
namespace Go.Proofs.YtogckcjcebckgaaGreat
open Go.ChangeShapes Go.WideShapes Go.ChangeAt Go.RowKit Go.WideMaps Go.WideElems
open Go.ChangeMaps (setBlock shut_map_nil open_string shut_string keptBut_setBlock frozen?_setBlock heap_setBlock_same)

set_option maxRecDepth 100000 in
set_option maxHeartbeats 4000000 in
theorem PlanBack_any (k : Krn) (A : Option Addr) (l : List Plc) (c : Nat) (m : Mod) (w : World) (hk : k.ok w) (h : PlsOk w A l) (hm : m.ok w) :
    Calls Tryz.prog 7 #[.agg #[.int .i64 k.major, .int .i64 k.minor, .slice k.eA k.ex.length k.eC, .slice A l.length c], m.v] w fun e w' => e = .returned (.bool true) ∧ Below w.heap.size w w' := by
  obtain ⟨w0, e0⟩ : ∃ w0, w0 = w := ⟨_, rfl⟩
  have HB0 := Lib.hid (show Below w.heap.size w w0 from e0 ▸ Below.refl _ _)
  have HT0 := Lib.hid (show RgThere w0 k A l from e0 ▸ ⟨hk, h⟩)
  have HMO0 := Lib.hid (show m.ok w0 from e0 ▸ hm)
  subst e0
  obtain ⟨w1, hw1⟩ : ∃ w1, w1 = w0.alloc (.cells #[.int .i64 k.major, .int .i64 k.minor, .slice k.eA k.ex.length k.eC, .slice A l.length c] 39) := ⟨_, rfl⟩
  have hb1 : Below w0.heap.size w0 w1 := hw1 ▸ (Below.refl _ _).alloc (Nat.le_refl _) _
  have HB1 := Lib.hid (HB0.out.trans (hb1.mono HB0.out.size))
  have HT1 := Lib.hid (HT0.out.below hb1)
  have HMO1 := Lib.hid (HMO0.out.below hb1)
  have HR1 := Lib.hid (show w1.heap[w0.heap.size]? = some (.cells #[.int .i64 k.major, .int .i64 k.minor, .slice k.eA k.ex.length k.eC, .slice A l.length c] 39 (0, 0)) by rw [hw1]; exact heap_alloc_new w0 _)
  have HSZ1 := Lib.hid (show w1.heap.size = w0.heap.size + 1 by rw [hw1]; simp)
  have hw1' := hw1.symm
  clear hw1 hb1
  obtain ⟨w2, hw2⟩ : ∃ w2, w2 = w1.alloc (.cells #[.string m.name, .int .i64 m.major, .int .i64 m.minor, .string m.text, .slice m.eA m.ex.length m.eC, .slice m.iA m.im.length m.iC, .slice m.pA m.pa.length m.pC] 75) := ⟨_, rfl⟩
  have hb2 : Below w1.heap.size w1 w2 := hw2 ▸ (Below.refl _ _).alloc (Nat.le_refl _) _
  have hneRM := Lib.hid (Nat.ne_of_lt (Array.getElem?_eq_some_iff.1 HR1.out).1)
  have HB2 := Lib.hid (HB1.out.trans (hb2.mono HB1.out.size))
  have HT2 := Lib.hid (HT1.out.below hb2)
  have HMO2 := Lib.hid (HMO1.out.below hb2)
  have HR2 := Lib.hid (blk' hb2 HR1.out)
  have HM2 := Lib.hid (show w2.heap[w1.heap.size]? = some (.cells #[.string m.name, .int .i64 m.major, .int .i64 m.minor, .string m.text, .slice m.eA m.ex.length m.eC, .slice m.iA m.im.length m.iC, .slice m.pA m.pa.length m.pC] 75 (0, 0)) by rw [hw2]; exact heap_alloc_new w1 _)
  have HSZ2 := Lib.hid (show w2.heap.size = w1.heap.size + 1 by rw [hw2]; simp)
  have hw2' := hw2.symm
  clear hw2 hb2
  have HU1 := Lib.hid (plan_there (cm := ⟨1, m, ⟨#[]⟩⟩) hk h hm)
  obtain ⟨F1, hF1⟩ : ∃ F, F = planErr k ⟨1, m, ⟨#[]⟩⟩ l := ⟨_, rfl⟩
  have HF1 := Lib.hid hF1
  rw [← hF1] at HU1
  clear hk h hm hF1
  go_enter Tryz.func7, Tryz.ntmps7
  go_wp2_with fail
  refine (planBegun_any _).mono ?_; rintro e w3 ⟨rfl, hb3⟩
  have HB3 := Lib.hid (HB2.out.trans (hb3.mono HB2.out.size))
  have HT3 := Lib.hid (HT2.out.below hb3)
  have HMO3 := Lib.hid (HMO2.out.below hb3)
  have HR3 := Lib.hid (blk' hb3 HR2.out)
  have HM3 := Lib.hid (blk' hb3 HM2.out)
  have f1 := Lib.hid (PInstall_any k A c l m w3 HT3.out.1 HT3.out.2 HMO3.out)
  rw [← HF1.out] at f1
  obtain ⟨_, r0, r1, r2, r3, rf0, rf1, rf2, rf3⟩ := rgcells HR3.out
  obtain ⟨n0, n1, n2, n3, n4, n5, n6⟩ := box_mod HM3.out
  clear hb3
  go_wp2_with fail
  refine (f1.out).mono ?_; rintro e w4 ⟨⟨k1, A1, l1, c1, rfl, hrg⟩, hb4⟩
  have HB4 := Lib.hid (HB3.out.trans (hb4.mono HB3.out.size))
  have HT4 := Lib.hid (HT3.out.below hb4)
  have HMO4 := Lib.hid (HMO3.out.below hb4)
  have HR4 := Lib.hid (blk' hb4 HR3.out)
  have HM4 := Lib.hid (blk' hb4 HM3.out)
  have HP4 := Lib.hid (HU1.out _ _ _ _ _ _ hrg).1
  have HS1 := Lib.hid (HU1.out _ _ _ _ _ _ hrg).2
  clear r0 r1 r2 r3 rf0 rf1 rf2 rf3
  clear hrg hb4 f1 n0 n1 n2 n3 n4 n5 n6
  obtain ⟨w5, hw5⟩ : ∃ w5, w5 = w4.alloc (.cells #[.int .i64 k1.major, .int .i64 k1.minor, .slice k1.eA k1.ex.length k1.eC, .slice A1 l1.length c1] 39) := ⟨_, rfl⟩
  have hb5 : Below w4.heap.size w4 w5 := hw5 ▸ (Below.refl _ _).alloc (Nat.le_refl _) _
  have hneRA := Lib.hid (Nat.ne_of_lt (Array.getElem?_eq_some_iff.1 HR4.out).1)
  have hneMA := Lib.hid (Nat.ne_of_lt (Array.getElem?_eq_some_iff.1 HM4.out).1)
  have HB5 := Lib.hid (HB4.out.trans (hb5.mono HB4.out.size))
  have HT5 := Lib.hid (HT4.out.below hb5)
  have HMO5 := Lib.hid (HMO4.out.below hb5)
  have HR5 := Lib.hid (blk' hb5 HR4.out)
  have HM5 := Lib.hid (blk' hb5 HM4.out)
  have HP5 := Lib.hid (HP4.out.below hb5)
  have HA5 := Lib.hid (show w5.heap[w4.heap.size]? = some (.cells #[.int .i64 k1.major, .int .i64 k1.minor, .slice k1.eA k1.ex.length k1.eC, .slice A1 l1.length c1] 39 (0, 0)) by rw [hw5]; exact heap_alloc_new w4 _)
  have HSZ5 := Lib.hid (show w5.heap.size = w4.heap.size + 1 by rw [hw5]; simp)
  have hw5' := hw5.symm
  clear hw5 hb5
  by_cases t : F1 = 0
  · obtain ⟨q1, q2⟩ := HS1.out.1 t
    have q2 : bares l1 = bares (instL l m) := q2
    obtain ⟨b1, ⟨b2, b3⟩, ⟨b4, b5⟩⟩ := back_facts (HF1.out.symm.trans t) q1 q2
    have HQ := Lib.hid q1
    have HEB := Lib.hid b3
    have HEC := Lib.hid b5
    have f2 := Lib.hid (PInstall_any k1 A1 c1 l1 m w5 HP5.out.1 HP5.out.2 HMO5.out)
    rw [b1] at f2
    have HZ2 := Lib.hid b2
    have HZ4 := Lib.hid b4
    subst t
    clear q1 q2 b1 b2 b3 b4 b5
    obtain ⟨_, r0, r1, r2, r3, rf0, rf1, rf2, rf3⟩ := rgcells HA5.out
    obtain ⟨n0, n1, n2, n3, n4, n5, n6⟩ := box_mod HM5.out
    go_wp2_with fail
    refine (f2.out).mono ?_; rintro e w6 ⟨⟨k2, A2, l2, c2, rfl, hrg⟩, hb6⟩
    have HB6 := Lib.hid (HB5.out.trans (hb6.mono HB5.out.size))
    have HT6 := Lib.hid (HT5.out.below hb6)
    have HMO6 := Lib.hid (HMO5.out.below hb6)
    have HR6 := Lib.hid (blk' hb6 HR5.out)
    have HM6 := Lib.hid (blk' hb6 HM5.out)
    have HP6 := Lib.hid (HP5.out.below hb6)
    have HA6 := Lib.hid (blk' hb6 HA5.out)
    clear r0 r1 r2 r3 rf0 rf1 rf2 rf3
    clear hrg hb6 f2 n0 n1 n2 n3 n4 n5 n6
    obtain ⟨w7, hw7⟩ : ∃ w7, w7 = w6.alloc (.cells #[.int .i64 k2.major, .int .i64 k2.minor, .slice k2.eA k2.ex.length k2.eC, .slice A2 l2.length c2] 39) := ⟨_, rfl⟩
    have hb7 : Below w6.heap.size w6 w7 := hw7 ▸ (Below.refl _ _).alloc (Nat.le_refl _) _
    have hneRD := Lib.hid (Nat.ne_of_lt (Array.getElem?_eq_some_iff.1 HR6.out).1)
    have hneMD := Lib.hid (Nat.ne_of_lt (Array.getElem?_eq_some_iff.1 HM6.out).1)
    have hneAD := Lib.hid (Nat.ne_of_lt (Array.getElem?_eq_some_iff.1 HA6.out).1)
    have HB7 := Lib.hid (HB6.out.trans (hb7.mono HB6.out.size))
    have HT7 := Lib.hid (HT6.out.below hb7)
    have HMO7 := Lib.hid (HMO6.out.below hb7)
    have HR7 := Lib.hid (blk' hb7 HR6.out)
    have HM7 := Lib.hid (blk' hb7 HM6.out)
    have HP7 := Lib.hid (HP6.out.below hb7)
    have HA7 := Lib.hid (blk' hb7 HA6.out)
    have HD7 := Lib.hid (show w7.heap[w6.heap.size]? = some (.cells #[.int .i64 k2.major, .int .i64 k2.minor, .slice k2.eA k2.ex.length k2.eC, .slice A2 l2.length c2] 39 (0, 0)) by rw [hw7]; exact heap_alloc_new w6 _)
    have HSZ7 := Lib.hid (show w7.heap.size = w6.heap.size + 1 by rw [hw7]; simp)
    have hw7' := hw7.symm
    clear hw7 hb7
    have f3 := Lib.hid (PRemove_any k1 A1 c1 l1 m.name w7 HP7.out.1 HP7.out.2)
    have HU2 := Lib.hid (plan_there (cm := ⟨2, noMod, m.name⟩) HP7.out.1 HP7.out.2 (noMod_ok _))
    rw [HZ2.out] at f3 HU2
    obtain ⟨_, r0, r1, r2, r3, rf0, rf1, rf2, rf3⟩ := rgcells HA7.out
    obtain ⟨n0, n1, n2, n3, n4, n5, n6⟩ := box_mod HM7.out
    go_wp2_with fail
    refine (f3.out).mono ?_; rintro e w8 ⟨⟨k3, A3, l3, c3, rfl, hrg⟩, hb8⟩
    have HB8 := Lib.hid (HB7.out.trans (hb8.mono HB7.out.size))
    have HT8 := Lib.hid (HT7.out.below hb8)
    have HMO8 := Lib.hid (HMO7.out.below hb8)
    have HR8 := Lib.hid (blk' hb8 HR7.out)
    have HM8 := Lib.hid (blk' hb8 HM7.out)
    have HP8 := Lib.hid (HP7.out.below hb8)
    have HA8 := Lib.hid (blk' hb8 HA7.out)
    have HD8 := Lib.hid (blk' hb8 HD7.out)
    have HV8 := Lib.hid (HU2.out _ _ _ _ _ _ hrg).1
    have HS3 := Lib.hid ((HU2.out _ _ _ _ _ _ hrg).2.1 (by trivial))
    clear r0 r1 r2 r3 rf0 rf1 rf2 rf3
    clear hrg hb8 f3 HU2 n0 n1 n2 n3 n4 n5 n6
    obtain ⟨w9, hw9⟩ : ∃ w9, w9 = w8.alloc (.cells #[.int .i64 k3.major, .int .i64 k3.minor, .slice k3.eA k3.ex.length k3.eC, .slice A3 l3.length c3] 39) := ⟨_, rfl⟩
    have hb9 : Below w8.heap.size w8 w9 := hw9 ▸ (Below.refl _ _).alloc (Nat.le_refl _) _
    have hneRE := Lib.hid (Nat.ne_of_lt (Array.getElem?_eq_some_iff.1 HR8.out).1)
    have hneME := Lib.hid (Nat.ne_of_lt (Array.getElem?_eq_some_iff.1 HM8.out).1)
    have hneAE := Lib.hid (Nat.ne_of_lt (Array.getElem?_eq_some_iff.1 HA8.out).1)
    have hneDE := Lib.hid (Nat.ne_of_lt (Array.getElem?_eq_some_iff.1 HD8.out).1)
    have HB9 := Lib.hid (HB8.out.trans (hb9.mono HB8.out.size))
    have HT9 := Lib.hid (HT8.out.below hb9)
    have HMO9 := Lib.hid (HMO8.out.below hb9)
    have HR9 := Lib.hid (blk' hb9 HR8.out)
    have HM9 := Lib.hid (blk' hb9 HM8.out)
    have HP9 := Lib.hid (HP8.out.below hb9)
    have HA9 := Lib.hid (blk' hb9 HA8.out)
    have HD9 := Lib.hid (blk' hb9 HD8.out)
    have HV9 := Lib.hid (HV8.out.below hb9)
    have HE9 := Lib.hid (show w9.heap[w8.heap.size]? = some (.cells #[.int .i64 k3.major, .int .i64 k3.minor, .slice k3.eA k3.ex.length k3.eC, .slice A3 l3.length c3] 39 (0, 0)) by rw [hw9]; exact heap_alloc_new w8 _)
    have HSZ9 := Lib.hid (show w9.heap.size = w8.heap.size + 1 by rw [hw9]; simp)
    have hw9' := hw9.symm
    clear hw9 hb9
    have f4 := Lib.hid (PUpgrade_any k1 A1 c1 l1 m w9 HP9.out.1 HP9.out.2 HMO9.out)
    have HU3 := Lib.hid (plan_there (cm := ⟨3, m, ⟨#[]⟩⟩) HP9.out.1 HP9.out.2 HMO9.out)
    rw [HZ4.out] at f4 HU3
    obtain ⟨_, r0, r1, r2, r3, rf0, rf1, rf2, rf3⟩ := rgcells HA9.out
    obtain ⟨n0, n1, n2, n3, n4, n5, n6⟩ := box_mod HM9.out
    go_wp2_with fail
    refine (f4.out).mono ?_; rintro e w10 ⟨⟨k4, A4, l4, c4, rfl, hrg⟩, hb10⟩
    have HB10 := Lib.hid (HB9.out.trans (hb10.mono HB9.out.size))
    have HT10 := Lib.hid (HT9.out.below hb10)
    have HMO10 := Lib.hid (HMO9.out.below hb10)
    have HR10 := Lib.hid (blk' hb10 HR9.out)
    have HM10 := Lib.hid (blk' hb10 HM9.out)
    have HP10 := Lib.hid (HP9.out.below hb10)
    have HA10 := Lib.hid (blk' hb10 HA9.out)
    have HD10 := Lib.hid (blk' hb10 HD9.out)
    have HV10 := Lib.hid (HV9.out.below hb10)
    have HE10 := Lib.hid (blk' hb10 HE9.out)
    have HW10 := Lib.hid (HU3.out _ _ _ _ _ _ hrg).1
    have HS4 := Lib.hid ((HU3.out _ _ _ _ _ _ hrg).2.1 (by trivial))
    clear r0 r1 r2 r3 rf0 rf1 rf2 rf3
    clear hrg hb10 f4 HU3 n0 n1 n2 n3 n4 n5 n6
    obtain ⟨w11, hw11⟩ : ∃ w11, w11 = w10.alloc (.cells #[.int .i64 k4.major, .int .i64 k4.minor, .slice k4.eA k4.ex.length k4.eC, .slice A4 l4.length c4] 39) := ⟨_, rfl⟩
    have hb11 : Below w10.heap.size w10 w11 := hw11 ▸ (Below.refl _ _).alloc (Nat.le_refl _) _
    have hneRF := Lib.hid (Nat.ne_of_lt (Array.getElem?_eq_some_iff.1 HR10.out).1)
    have hneMF := Lib.hid (Nat.ne_of_lt (Array.getElem?_eq_some_iff.1 HM10.out).1)
    have hneAF := Lib.hid (Nat.ne_of_lt (Array.getElem?_eq_some_iff.1 HA10.out).1)
    have hneDF := Lib.hid (Nat.ne_of_lt (Array.getElem?_eq_some_iff.1 HD10.out).1)
    have hneEF := Lib.hid (Nat.ne_of_lt (Array.getElem?_eq_some_iff.1 HE10.out).1)
    have HB11 := Lib.hid (HB10.out.trans (hb11.mono HB10.out.size))
    have HT11 := Lib.hid (HT10.out.below hb11)
    have HMO11 := Lib.hid (HMO10.out.below hb11)
    have HR11 := Lib.hid (blk' hb11 HR10.out)
    have HM11 := Lib.hid (blk' hb11 HM10.out)
    have HP11 := Lib.hid (HP10.out.below hb11)
    have HA11 := Lib.hid (blk' hb11 HA10.out)
    have HD11 := Lib.hid (blk' hb11 HD10.out)
    have HV11 := Lib.hid (HV10.out.below hb11)
    have HE11 := Lib.hid (blk' hb11 HE10.out)
    have HW11 := Lib.hid (HW10.out.below hb11)
    have HF11 := Lib.hid (show w11.heap[w10.heap.size]? = some (.cells #[.int .i64 k4.major, .int .i64 k4.minor, .slice k4.eA k4.ex.length k4.eC, .slice A4 l4.length c4] 39 (0, 0)) by rw [hw11]; exact heap_alloc_new w10 _)
    have HSZ11 := Lib.hid (show w11.heap.size = w10.heap.size + 1 by rw [hw11]; simp)
    have hw11' := hw11.symm
    clear hw11 hb11
    have g1 := Lib.hid (SameRegistry_any k3 k A3 A c3 c l3 l w11 HV11.out.1 HV11.out.2 HT11.out.1 HT11.out.2 (HS3.out.1.trans HQ.out) (HS3.out.2.trans HEB.out))
    obtain ⟨_, x0, x1, x2, x3, xf0, xf1, xf2, xf3⟩ := rgcells HE11.out
    obtain ⟨_, y0, y1, y2, y3, yf0, yf1, yf2, yf3⟩ := rgcells HR11.out
    go_wp2_with fail
    refine (g1.out).mono ?_; rintro e w12 ⟨rfl, hb12⟩
    have HB12 := Lib.hid (HB11.out.trans (hb12.mono HB11.out.size))
    have HT12 := Lib.hid (HT11.out.below hb12)
    have HMO12 := Lib.hid (HMO11.out.below hb12)
    have HR12 := Lib.hid (blk' hb12 HR11.out)
    have HM12 := Lib.hid (blk' hb12 HM11.out)
    have HP12 := Lib.hid (HP11.out.below hb12)
    have HA12 := Lib.hid (blk' hb12 HA11.out)
    have HD12 := Lib.hid (blk' hb12 HD11.out)
    have HV12 := Lib.hid (HV11.out.below hb12)
    have HE12 := Lib.hid (blk' hb12 HE11.out)
    have HW12 := Lib.hid (HW11.out.below hb12)
    have HF12 := Lib.hid (blk' hb12 HF11.out)
    clear x0 x1 x2 x3 xf0 xf1 xf2 xf3; clear y0 y1 y2 y3 yf0 yf1 yf2 yf3
    clear hb12 g1
    have g2 := Lib.hid (SameRegistry_any k4 k1 A4 A1 c4 c1 l4 l1 w12 HW12.out.1 HW12.out.2 HP12.out.1 HP12.out.2 HS4.out.1 (HS4.out.2.trans HEC.out))
    obtain ⟨_, x0, x1, x2, x3, xf0, xf1, xf2, xf3⟩ := rgcells HF12.out
    obtain ⟨_, y0, y1, y2, y3, yf0, yf1, yf2, yf3⟩ := rgcells HA12.out
    go_wp2_with fail
    refine (g2.out).mono ?_; rintro e w13 ⟨rfl, hb13⟩
    have HB13 := Lib.hid (HB12.out.trans (hb13.mono HB12.out.size))
    have HT13 := Lib.hid (HT12.out.below hb13)
    have HMO13 := Lib.hid (HMO12.out.below hb13)
    have HR13 := Lib.hid (blk' hb13 HR12.out)
    have HM13 := Lib.hid (blk' hb13 HM12.out)
    have HP13 := Lib.hid (HP12.out.below hb13)
    have HA13 := Lib.hid (blk' hb13 HA12.out)
    have HD13 := Lib.hid (blk' hb13 HD12.out)
    have HV13 := Lib.hid (HV12.out.below hb13)
    have HE13 := Lib.hid (blk' hb13 HE12.out)
    have HW13 := Lib.hid (HW12.out.below hb13)
    have HF13 := Lib.hid (blk' hb13 HF12.out)
    clear x0 x1 x2 x3 xf0 xf1 xf2 xf3; clear y0 y1 y2 y3 yf0 yf1 yf2 yf3
    clear hb13 g2
    go_wp2_with fail
    go_ret
    exact ⟨by simp, HB13.out⟩
  · have t' : (F1 != 0) = true := by simp [t]
    have hl := (HS1.out.2 t).2
    obtain ⟨_, r0, r1, r2, r3, rf0, rf1, rf2, rf3⟩ := rgcells HA5.out
    rw [hl] at r3
    clear hl
    simp only [List.length_nil] at r3
    go_wp2_with fail
    go_ret
    exact ⟨by simp, HB5.out⟩

set_option maxHeartbeats 0 in
theorem planBack_closed : joinedFacts Tryz.prog 7 Tryz.f7 Rows.planBackSpec Rows.planBackRow = true := by
  unfold joinedFacts
  simp only [Bool.and_eq_true]
  and_intros
  · as_aux_lemma => kernel_rfl
  · exact Tryz.laidOut
  · exact Tryz.k_mapsRowed
  · as_aux_lemma => kernel_rfl
  · as_aux_lemma => kernel_rfl
  · as_aux_lemma => kernel_rfl
  · exact Tryz.k_stops
  · as_aux_lemma => kernel_rfl
  · exact Tryz.k_stopKnobs
  · as_aux_lemma => kernel_rfl
  · as_aux_lemma => kernel_rfl
  · as_aux_lemma => kernel_rfl
  · as_aux_lemma => kernel_rfl
  · as_aux_lemma => kernel_rfl
  · as_aux_lemma => kernel_rfl
  · as_aux_lemma => kernel_rfl
  · as_aux_lemma => kernel_rfl
  · as_aux_lemma => kernel_rfl
  · as_aux_lemma => kernel_rfl
  · as_aux_lemma => kernel_rfl
  · as_aux_lemma => kernel_rfl
  · as_aux_lemma => kernel_rfl
  · exact Tryz.k_plainKeys
  · as_aux_lemma => kernel_rfl
  · exact Tryz.k_stopsHeard
  · exact Tryz.k_mayEnter
  · exact Tryz.k_lifts
  · exact Tryz.k_make
  · as_aux_lemma => kernel_rfl
  · as_aux_lemma => kernel_rfl
  · as_aux_lemma => kernel_rfl
  · as_aux_lemma => kernel_rfl

set_option maxRecDepth 100000 in
theorem planBack_lifted (os : Os) (started : os.Started) (H : Type) (enc : TypeId × Value → H) :
    ReturnsInHanded {} Tryz.checked os 7 .any (Rows.planBackSpec.pre6 enc Tryz.prog Tryz.f7 Rows.planBackRow.domain false) (Rows.planBackSpec.post enc Tryz.prog Tryz.f7 false true false false) := by
  refine returnsInHanded_of_change_sized (C := Tryz.checked) Tryz.own started (by kernel_rfl) Tryz.func7
    (ChangeSpec.witness6 (enc := enc) (C := Tryz.checked) false ⟨#[], #[.agg #[.int .i64 0, .int .i64 0, .slice none 0 0, .slice none 0 0], .agg #[.string ⟨#[]⟩, .int .i64 0, .int .i64 0, .string ⟨#[]⟩, .slice none 0 0, .slice none 0 0, .slice none 0 0]], []⟩ 8 (by kernel_rfl) (by kernel_rfl) (by kernel_rfl) (by kernel_rfl)) ?_
  intro W base args ds gs before hval0 hW hcnd hsz0 _
  have hval : ∀ (j : Nat) t v, Tryz.f7.params[j]? = some t → args[j]? = some v → Value.okWide Tryz.prog W .any base t v := hval0
  have hsz : (DataW.weightsEach Tryz.prog (Tryz.f7.params.toList ++ Rows.planBackSpec.plain.varTypes Tryz.prog) (ds ++ gs)).all (· ≤ reachBytes) = true := hsz0
  have hW' := hW
  obtain ⟨p, q, hA0, hV, rfl, hfz, hnd⟩ := hW
  have hA : DataW.TrodAll enc Tryz.prog W 0 (fun _ => true) true Tryz.f7.params.toList args.toList ds p := hA0
  rw [Tryz.params7] at hA hval hsz
  obtain ⟨v0, vs0, d0, ds0, p0, q0, hargs, rfl, rfl, h0, r0⟩ := trodAll_cons hA
  obtain ⟨v1, vs1, d1, ds1, p1, q1, rfl, rfl, rfl, h1, r1⟩ := trodAll_cons r0
  obtain ⟨rfl, rfl, rfl⟩ := trodAll_nil r1
  obtain rfl : args = #[v0, v1] := by cases args; simp_all
  obtain ⟨rfl, rfl⟩ := trodVars_none hV
  have ft0 := fits_each hsz (j := 0) rfl rfl
  obtain ⟨rK, rA, rL, rC, rfl, okk0, okl0⟩ := open_Registry (hval 0 39 v0 rfl rfl) h0 ft0
  have ft1 := fits_each hsz (j := 1) rfl rfl
  obtain ⟨m, rfl, ok1⟩ := open_Module (hval 1 75 v1 rfl rfl) h1 ft1
  refine (PlanBack_any rK rA rL rC m W okk0 okl0 ok1).mono fun e W' ⟨he, hb⟩ => ?_
  subst he
  exact ⟨_, rfl, law_post Tryz.laidOut hW' rfl (by decide +kernel) rfl Tryz.underlying4 rfl rfl rfl hb⟩

theorem planBack_holds : Rows.PlanBackSaid :=
  OpenClaim.holds_of_wide 7 Tryz.f7 rfl rfl rfl rfl rfl rfl rfl ⟨rfl, rfl, rfl, rfl, rfl⟩ rfl rfl rfl rfl rfl (by kernel_rfl) Tryz.func7 planBack_closed
    (of_decide_eq_true (by kernel_rfl)) (by unfold Func.isWrapper; first | (rw [if_pos (by decide +kernel)]; kernel_rfl) | (rw [if_neg (by decide +kernel)]; exact ⟨rfl, rfl⟩))
    (fun os started H enc _ => planBack_lifted os started H enc)
#print axioms planBack_holds


end Go.Proofs.YtogckcjcebckgaaGreat
