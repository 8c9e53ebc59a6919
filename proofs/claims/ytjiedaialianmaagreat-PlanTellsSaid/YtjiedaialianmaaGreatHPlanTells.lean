import Derived.Test.YtjiedaialianmaaGreatKRUpgW
import Derived.Test.YtjiedaialianmaaGreatKPlanThere
import Derived.Test.YtjiedaialianmaaGreatG08
import Derived.Test.YtjiedaialianmaaGreatKShut

namespace Go.Proofs.YtjiedaialianmaaGreat
open Go.ChangeShapes Go.WideShapes Go.ChangeAt Go.RowKit Go.WideMaps Go.WideElems
open Go.ChangeMaps (setBlock shut_map_nil open_string shut_string keptBut_setBlock frozen?_setBlock heap_setBlock_same)

theorem doc_same {F : Int} {k1 k4 k : Krn} {l1 l4 L : List Plc} (h1 : (F = 0 → k1.bare = k.bare ∧ bares l1 = bares L) ∧ (F ≠ 0 → k1.bare = noKrn ∧ l1 = [])) (h2 : k4.bare = (wK F k).bare ∧ bares l4 = bares (wL F L)) : F = 0 → k1.bare = k4.bare ∧ bares l1 = bares l4 := fun e => by
  obtain ⟨a, b⟩ := h1.1 e
  subst e
  exact ⟨a.trans h2.1.symm, b.trans h2.2.symm⟩

set_option maxRecDepth 100000 in
set_option maxHeartbeats 8000000 in
theorem PlanTells_any (k : Krn) (A : Option Addr) (l : List Plc) (c : Nat) (m : Mod) (nm : ByteArray) (w : World) (hk : k.ok w) (h : PlsOk w A l) (hm : m.ok w) (_hn : nm.size ≤ 140737488351232) :
    Calls Tryz.prog 5 #[.agg #[.int .i64 k.major, .int .i64 k.minor, .slice k.eA k.ex.length k.eC, .slice A l.length c], m.v, .string nm] w fun e w' => e = .returned (.bool true) ∧ Below w.heap.size w w' := by
  have HBw := Lib.hid (Below.refl w.heap.size w)
  obtain ⟨w0, e0⟩ : ∃ w0, w0 = w := ⟨_, rfl⟩
  have HB0 := Lib.hid (show Below w.heap.size w w0 from e0 ▸ Below.refl _ _)
  have HT0 := Lib.hid (show RgThere w0 k A l from e0 ▸ ⟨hk, h⟩)
  have HMO0 := Lib.hid (show m.ok w0 from e0 ▸ hm)
  subst e0
  obtain ⟨w1, hw1⟩ : ∃ w1, w1 = w0.alloc (.cells #[.int .i64 k.major, .int .i64 k.minor, .slice k.eA k.ex.length k.eC, .slice A l.length c] 39) := ⟨_, rfl⟩
  have hb1 : Below w0.heap.size w0 w1 := hw1 ▸ (Below.refl _ _).alloc (Nat.le_refl _) _
  have HB1 := Lib.hid (HB0.out.trans (hb1.mono HB0.out.size))
  have HT1 := Lib.hid (HT0.out.below hb1)
  have HMO1 := Lib.hid (HMO0.out.below hb1)
  have HR1 := Lib.hid (show w1.heap[w0.heap.size]? = some (.cells #[.int .i64 k.major, .int .i64 k.minor, .slice k.eA k.ex.length k.eC, .slice A l.length c] 39 (0, 0)) by rw [hw1]; exact heap_alloc_new w0 _)
  have HSZ1 := Lib.hid (show w1.heap.size = w0.heap.size + 1 by rw [hw1]; simp)
  have hw1' := hw1.symm
  clear hw1 hb1
  obtain ⟨w2, hw2⟩ : ∃ w2, w2 = w1.alloc (.cells #[.string m.name, .int .i64 m.major, .int .i64 m.minor, .string m.text, .slice m.eA m.ex.length m.eC, .slice m.iA m.im.length m.iC, .slice m.pA m.pa.length m.pC] 70) := ⟨_, rfl⟩
  have hb2 : Below w1.heap.size w1 w2 := hw2 ▸ (Below.refl _ _).alloc (Nat.le_refl _) _
  have hneRM := Lib.hid (Nat.ne_of_lt (Array.getElem?_eq_some_iff.1 HR1.out).1)
  have HB2 := Lib.hid (HB1.out.trans (hb2.mono HB1.out.size))
  have HT2 := Lib.hid (HT1.out.below hb2)
  have HMO2 := Lib.hid (HMO1.out.below hb2)
  have HR2 := Lib.hid (blk' hb2 HR1.out)
  have HM2 := Lib.hid (show w2.heap[w1.heap.size]? = some (.cells #[.string m.name, .int .i64 m.major, .int .i64 m.minor, .string m.text, .slice m.eA m.ex.length m.eC, .slice m.iA m.im.length m.iC, .slice m.pA m.pa.length m.pC] 70 (0, 0)) by rw [hw2]; exact heap_alloc_new w1 _)
  have HSZ2 := Lib.hid (show w2.heap.size = w1.heap.size + 1 by rw [hw2]; simp)
  have hw2' := hw2.symm
  clear hw2 hb2
  have HU1 := Lib.hid (plan_there (cm := ⟨1, m, ⟨#[]⟩⟩) hk h hm)
  have HU2 := Lib.hid (plan_there (cm := ⟨2, noMod, nm⟩) hk h (noMod_ok _))
  have HU3 := Lib.hid (plan_there (cm := ⟨3, m, ⟨#[]⟩⟩) hk h hm)
  obtain ⟨F1, hF1⟩ : ∃ F, F = planErr k ⟨1, m, ⟨#[]⟩⟩ l := ⟨_, rfl⟩
  obtain ⟨F2, hF2⟩ : ∃ F, F = planErr k ⟨2, noMod, nm⟩ l := ⟨_, rfl⟩
  obtain ⟨F3, hF3⟩ : ∃ F, F = planErr k ⟨3, m, ⟨#[]⟩⟩ l := ⟨_, rfl⟩
  have HF1 := Lib.hid hF1
  have HF2 := Lib.hid hF2
  have HF3 := Lib.hid hF3
  obtain ⟨R, hR⟩ : ∃ R, R = rgErr k l := ⟨_, rfl⟩
  have HRE := Lib.hid hR
  have f1 := Lib.hid (PInstall_any k A c l m w2 HT2.out.1 HT2.out.2 HMO2.out)
  rw [← hF1] at HU1 f1
  rw [← hF2] at HU2
  rw [← hF3] at HU3
  obtain ⟨_, r0, r1, r2, r3, rf0, rf1, rf2, rf3⟩ := rgcells HR2.out
  obtain ⟨n0, n1, n2, n3, n4, n5, n6⟩ := box_mod HM2.out
  clear hk h hm hF1 hF2 hF3 hR
  go_enter Tryz.func5, Tryz.ntmps5
  go_wp2_with fail
  refine (f1.out).mono ?_; rintro e w3 ⟨⟨k1, A1, l1, c1, rfl, hrg⟩, hb3⟩
  have HB3 := Lib.hid (HB2.out.trans (hb3.mono HB2.out.size))
  have HT3 := Lib.hid (HT2.out.below hb3)
  have HMO3 := Lib.hid (HMO2.out.below hb3)
  have HR3 := Lib.hid (blk' hb3 HR2.out)
  have HM3 := Lib.hid (blk' hb3 HM2.out)
  have HP3 := Lib.hid (HU1.out _ _ _ _ _ _ hrg).1
  have HS1 := Lib.hid (HU1.out _ _ _ _ _ _ hrg).2
  clear r0 r1 r2 r3 rf0 rf1 rf2 rf3
  clear hrg hb3 f1 n0 n1 n2 n3 n4 n5 n6
  obtain ⟨w4, hw4⟩ : ∃ w4, w4 = w3.alloc (.cells #[.int .i64 k1.major, .int .i64 k1.minor, .slice k1.eA k1.ex.length k1.eC, .slice A1 l1.length c1] 39) := ⟨_, rfl⟩
  have hb4 : Below w3.heap.size w3 w4 := hw4 ▸ (Below.refl _ _).alloc (Nat.le_refl _) _
  have hneRA := Lib.hid (Nat.ne_of_lt (Array.getElem?_eq_some_iff.1 HR3.out).1)
  have hneMA := Lib.hid (Nat.ne_of_lt (Array.getElem?_eq_some_iff.1 HM3.out).1)
  have HB4 := Lib.hid (HB3.out.trans (hb4.mono HB3.out.size))
  have HT4 := Lib.hid (HT3.out.below hb4)
  have HMO4 := Lib.hid (HMO3.out.below hb4)
  have HR4 := Lib.hid (blk' hb4 HR3.out)
  have HM4 := Lib.hid (blk' hb4 HM3.out)
  have HP4 := Lib.hid (HP3.out.below hb4)
  have HA4 := Lib.hid (show w4.heap[w3.heap.size]? = some (.cells #[.int .i64 k1.major, .int .i64 k1.minor, .slice k1.eA k1.ex.length k1.eC, .slice A1 l1.length c1] 39 (0, 0)) by rw [hw4]; exact heap_alloc_new w3 _)
  have HSZ4 := Lib.hid (show w4.heap.size = w3.heap.size + 1 by rw [hw4]; simp)
  have hw4' := hw4.symm
  clear hw4 hb4
  have f2 := Lib.hid (PRemove_any k A c l nm w4 HT4.out.1 HT4.out.2)
  rw [← HF2.out] at f2
  obtain ⟨_, r0, r1, r2, r3, rf0, rf1, rf2, rf3⟩ := rgcells HR4.out
  go_wp2_with fail
  refine (f2.out).mono ?_; rintro e w5 ⟨⟨k2, A2, l2, c2, rfl, hrg⟩, hb5⟩
  have HB5 := Lib.hid (HB4.out.trans (hb5.mono HB4.out.size))
  have HT5 := Lib.hid (HT4.out.below hb5)
  have HMO5 := Lib.hid (HMO4.out.below hb5)
  have HR5 := Lib.hid (blk' hb5 HR4.out)
  have HM5 := Lib.hid (blk' hb5 HM4.out)
  have HP5 := Lib.hid (HP4.out.below hb5)
  have HA5 := Lib.hid (blk' hb5 HA4.out)
  have HQ5 := Lib.hid (HU2.out _ _ _ _ _ _ hrg).1
  have HS2 := Lib.hid (HU2.out _ _ _ _ _ _ hrg).2
  clear r0 r1 r2 r3 rf0 rf1 rf2 rf3
  clear hrg hb5 f2
  obtain ⟨w6, hw6⟩ : ∃ w6, w6 = w5.alloc (.cells #[.int .i64 k2.major, .int .i64 k2.minor, .slice k2.eA k2.ex.length k2.eC, .slice A2 l2.length c2] 39) := ⟨_, rfl⟩
  have hb6 : Below w5.heap.size w5 w6 := hw6 ▸ (Below.refl _ _).alloc (Nat.le_refl _) _
  have hneRD := Lib.hid (Nat.ne_of_lt (Array.getElem?_eq_some_iff.1 HR5.out).1)
  have hneMD := Lib.hid (Nat.ne_of_lt (Array.getElem?_eq_some_iff.1 HM5.out).1)
  have hneAD := Lib.hid (Nat.ne_of_lt (Array.getElem?_eq_some_iff.1 HA5.out).1)
  have HB6 := Lib.hid (HB5.out.trans (hb6.mono HB5.out.size))
  have HT6 := Lib.hid (HT5.out.below hb6)
  have HMO6 := Lib.hid (HMO5.out.below hb6)
  have HR6 := Lib.hid (blk' hb6 HR5.out)
  have HM6 := Lib.hid (blk' hb6 HM5.out)
  have HP6 := Lib.hid (HP5.out.below hb6)
  have HA6 := Lib.hid (blk' hb6 HA5.out)
  have HQ6 := Lib.hid (HQ5.out.below hb6)
  have HD6 := Lib.hid (show w6.heap[w5.heap.size]? = some (.cells #[.int .i64 k2.major, .int .i64 k2.minor, .slice k2.eA k2.ex.length k2.eC, .slice A2 l2.length c2] 39 (0, 0)) by rw [hw6]; exact heap_alloc_new w5 _)
  have HSZ6 := Lib.hid (show w6.heap.size = w5.heap.size + 1 by rw [hw6]; simp)
  have hw6' := hw6.symm
  clear hw6 hb6
  have f3 := Lib.hid (PUpgrade_any k A c l m w6 HT6.out.1 HT6.out.2 HMO6.out)
  rw [← HF3.out] at f3
  obtain ⟨_, r0, r1, r2, r3, rf0, rf1, rf2, rf3⟩ := rgcells HR6.out
  obtain ⟨n0, n1, n2, n3, n4, n5, n6⟩ := box_mod HM6.out
  go_wp2_with fail
  refine (f3.out).mono ?_; rintro e w7 ⟨⟨k3, A3, l3, c3, rfl, hrg⟩, hb7⟩
  have HB7 := Lib.hid (HB6.out.trans (hb7.mono HB6.out.size))
  have HT7 := Lib.hid (HT6.out.below hb7)
  have HMO7 := Lib.hid (HMO6.out.below hb7)
  have HR7 := Lib.hid (blk' hb7 HR6.out)
  have HM7 := Lib.hid (blk' hb7 HM6.out)
  have HP7 := Lib.hid (HP6.out.below hb7)
  have HA7 := Lib.hid (blk' hb7 HA6.out)
  have HQ7 := Lib.hid (HQ6.out.below hb7)
  have HD7 := Lib.hid (blk' hb7 HD6.out)
  have HV7 := Lib.hid (HU3.out _ _ _ _ _ _ hrg).1
  have HS3 := Lib.hid (HU3.out _ _ _ _ _ _ hrg).2
  clear r0 r1 r2 r3 rf0 rf1 rf2 rf3
  clear hrg hb7 f3 n0 n1 n2 n3 n4 n5 n6
  obtain ⟨w8, hw8⟩ : ∃ w8, w8 = w7.alloc (.cells #[.int .i64 k3.major, .int .i64 k3.minor, .slice k3.eA k3.ex.length k3.eC, .slice A3 l3.length c3] 39) := ⟨_, rfl⟩
  have hb8 : Below w7.heap.size w7 w8 := hw8 ▸ (Below.refl _ _).alloc (Nat.le_refl _) _
  have hneRE := Lib.hid (Nat.ne_of_lt (Array.getElem?_eq_some_iff.1 HR7.out).1)
  have hneME := Lib.hid (Nat.ne_of_lt (Array.getElem?_eq_some_iff.1 HM7.out).1)
  have hneAE := Lib.hid (Nat.ne_of_lt (Array.getElem?_eq_some_iff.1 HA7.out).1)
  have hneDE := Lib.hid (Nat.ne_of_lt (Array.getElem?_eq_some_iff.1 HD7.out).1)
  have HB8 := Lib.hid (HB7.out.trans (hb8.mono HB7.out.size))
  have HT8 := Lib.hid (HT7.out.below hb8)
  have HMO8 := Lib.hid (HMO7.out.below hb8)
  have HR8 := Lib.hid (blk' hb8 HR7.out)
  have HM8 := Lib.hid (blk' hb8 HM7.out)
  have HP8 := Lib.hid (HP7.out.below hb8)
  have HA8 := Lib.hid (blk' hb8 HA7.out)
  have HQ8 := Lib.hid (HQ7.out.below hb8)
  have HD8 := Lib.hid (blk' hb8 HD7.out)
  have HV8 := Lib.hid (HV7.out.below hb8)
  have HE8 := Lib.hid (show w8.heap[w7.heap.size]? = some (.cells #[.int .i64 k3.major, .int .i64 k3.minor, .slice k3.eA k3.ex.length k3.eC, .slice A3 l3.length c3] 39 (0, 0)) by rw [hw8]; exact heap_alloc_new w7 _)
  have HSZ8 := Lib.hid (show w8.heap.size = w7.heap.size + 1 by rw [hw8]; simp)
  have hw8' := hw8.symm
  clear hw8 hb8
  have f4 := Lib.hid (CheckRegistry_any k A c l w8 HT8.out.1 HT8.out.2)
  rw [← HRE.out] at f4
  obtain ⟨_, r0, r1, r2, r3, rf0, rf1, rf2, rf3⟩ := rgcells HR8.out
  go_wp2_with fail
  refine (f4.out).mono ?_; rintro e w9 ⟨rfl, hb9⟩
  have HB9 := Lib.hid (HB8.out.trans (hb9.mono HB8.out.size))
  have HT9 := Lib.hid (HT8.out.below hb9)
  have HMO9 := Lib.hid (HMO8.out.below hb9)
  have HR9 := Lib.hid (blk' hb9 HR8.out)
  have HM9 := Lib.hid (blk' hb9 HM8.out)
  have HP9 := Lib.hid (HP8.out.below hb9)
  have HA9 := Lib.hid (blk' hb9 HA8.out)
  have HQ9 := Lib.hid (HQ8.out.below hb9)
  have HD9 := Lib.hid (blk' hb9 HD8.out)
  have HV9 := Lib.hid (HV8.out.below hb9)
  have HE9 := Lib.hid (blk' hb9 HE8.out)
  clear r0 r1 r2 r3 rf0 rf1 rf2 rf3
  clear hb9 f4
  obtain ⟨w10, hw10⟩ : ∃ w10, w10 = w9.alloc (.cells #[.int .i64 0, .int .i64 0, .slice none 0 0, .slice none 0 0] 39) := ⟨_, rfl⟩
  have hb10 : Below w9.heap.size w9 w10 := hw10 ▸ (Below.refl _ _).alloc (Nat.le_refl _) _
  have hneRX := Lib.hid (Nat.ne_of_lt (Array.getElem?_eq_some_iff.1 HR9.out).1)
  have hneMX := Lib.hid (Nat.ne_of_lt (Array.getElem?_eq_some_iff.1 HM9.out).1)
  have hneAX := Lib.hid (Nat.ne_of_lt (Array.getElem?_eq_some_iff.1 HA9.out).1)
  have hneDX := Lib.hid (Nat.ne_of_lt (Array.getElem?_eq_some_iff.1 HD9.out).1)
  have hneEX := Lib.hid (Nat.ne_of_lt (Array.getElem?_eq_some_iff.1 HE9.out).1)
  have HB10 := Lib.hid (HB9.out.trans (hb10.mono HB9.out.size))
  have HT10 := Lib.hid (HT9.out.below hb10)
  have HMO10 := Lib.hid (HMO9.out.below hb10)
  have HR10 := Lib.hid (blk' hb10 HR9.out)
  have HM10 := Lib.hid (blk' hb10 HM9.out)
  have HP10 := Lib.hid (HP9.out.below hb10)
  have HA10 := Lib.hid (blk' hb10 HA9.out)
  have HQ10 := Lib.hid (HQ9.out.below hb10)
  have HD10 := Lib.hid (blk' hb10 HD9.out)
  have HV10 := Lib.hid (HV9.out.below hb10)
  have HE10 := Lib.hid (blk' hb10 HE9.out)
  have HX10 := Lib.hid (show w10.heap[w9.heap.size]? = some (.cells #[.int .i64 0, .int .i64 0, .slice none 0 0, .slice none 0 0] 39 (0, 0)) by rw [hw10]; exact heap_alloc_new w9 _)
  have HSZ10 := Lib.hid (show w10.heap.size = w9.heap.size + 1 by rw [hw10]; simp)
  have hw10' := hw10.symm
  clear hw10 hb10
  obtain ⟨w11, hw11⟩ : ∃ w11, w11 = w10.alloc (.cells #[.int .i64 0, .int .i64 0, .slice none 0 0, .slice none 0 0] 39) := ⟨_, rfl⟩
  have hb11 : Below w10.heap.size w10 w11 := hw11 ▸ (Below.refl _ _).alloc (Nat.le_refl _) _
  have hneRY := Lib.hid (Nat.ne_of_lt (Array.getElem?_eq_some_iff.1 HR10.out).1)
  have hneMY := Lib.hid (Nat.ne_of_lt (Array.getElem?_eq_some_iff.1 HM10.out).1)
  have hneAY := Lib.hid (Nat.ne_of_lt (Array.getElem?_eq_some_iff.1 HA10.out).1)
  have hneDY := Lib.hid (Nat.ne_of_lt (Array.getElem?_eq_some_iff.1 HD10.out).1)
  have hneEY := Lib.hid (Nat.ne_of_lt (Array.getElem?_eq_some_iff.1 HE10.out).1)
  have hneXY := Lib.hid (Nat.ne_of_lt (Array.getElem?_eq_some_iff.1 HX10.out).1)
  have HB11 := Lib.hid (HB10.out.trans (hb11.mono HB10.out.size))
  have HT11 := Lib.hid (HT10.out.below hb11)
  have HMO11 := Lib.hid (HMO10.out.below hb11)
  have HR11 := Lib.hid (blk' hb11 HR10.out)
  have HM11 := Lib.hid (blk' hb11 HM10.out)
  have HP11 := Lib.hid (HP10.out.below hb11)
  have HA11 := Lib.hid (blk' hb11 HA10.out)
  have HQ11 := Lib.hid (HQ10.out.below hb11)
  have HD11 := Lib.hid (blk' hb11 HD10.out)
  have HV11 := Lib.hid (HV10.out.below hb11)
  have HE11 := Lib.hid (blk' hb11 HE10.out)
  have HX11 := Lib.hid (blk' hb11 HX10.out)
  have HY11 := Lib.hid (show w11.heap[w10.heap.size]? = some (.cells #[.int .i64 0, .int .i64 0, .slice none 0 0, .slice none 0 0] 39 (0, 0)) by rw [hw11]; exact heap_alloc_new w10 _)
  have HSZ11 := Lib.hid (show w11.heap.size = w10.heap.size + 1 by rw [hw11]; simp)
  have hw11' := hw11.symm
  clear hw11 hb11
  obtain ⟨w12, hw12⟩ : ∃ w12, w12 = w11.alloc (.cells #[.int .i64 0, .int .i64 0, .slice none 0 0, .slice none 0 0] 39) := ⟨_, rfl⟩
  have hb12 : Below w11.heap.size w11 w12 := hw12 ▸ (Below.refl _ _).alloc (Nat.le_refl _) _
  have hneRZ := Lib.hid (Nat.ne_of_lt (Array.getElem?_eq_some_iff.1 HR11.out).1)
  have hneMZ := Lib.hid (Nat.ne_of_lt (Array.getElem?_eq_some_iff.1 HM11.out).1)
  have hneAZ := Lib.hid (Nat.ne_of_lt (Array.getElem?_eq_some_iff.1 HA11.out).1)
  have hneDZ := Lib.hid (Nat.ne_of_lt (Array.getElem?_eq_some_iff.1 HD11.out).1)
  have hneEZ := Lib.hid (Nat.ne_of_lt (Array.getElem?_eq_some_iff.1 HE11.out).1)
  have hneXZ := Lib.hid (Nat.ne_of_lt (Array.getElem?_eq_some_iff.1 HX11.out).1)
  have hneYZ := Lib.hid (Nat.ne_of_lt (Array.getElem?_eq_some_iff.1 HY11.out).1)
  have HB12 := Lib.hid (HB11.out.trans (hb12.mono HB11.out.size))
  have HT12 := Lib.hid (HT11.out.below hb12)
  have HMO12 := Lib.hid (HMO11.out.below hb12)
  have HR12 := Lib.hid (blk' hb12 HR11.out)
  have HM12 := Lib.hid (blk' hb12 HM11.out)
  have HP12 := Lib.hid (HP11.out.below hb12)
  have HA12 := Lib.hid (blk' hb12 HA11.out)
  have HQ12 := Lib.hid (HQ11.out.below hb12)
  have HD12 := Lib.hid (blk' hb12 HD11.out)
  have HV12 := Lib.hid (HV11.out.below hb12)
  have HE12 := Lib.hid (blk' hb12 HE11.out)
  have HX12 := Lib.hid (blk' hb12 HX11.out)
  have HY12 := Lib.hid (blk' hb12 HY11.out)
  have HZ12 := Lib.hid (show w12.heap[w11.heap.size]? = some (.cells #[.int .i64 0, .int .i64 0, .slice none 0 0, .slice none 0 0] 39 (0, 0)) by rw [hw12]; exact heap_alloc_new w11 _)
  have HSZ12 := Lib.hid (show w12.heap.size = w11.heap.size + 1 by rw [hw12]; simp)
  have hw12' := hw12.symm
  clear hw12 hb12
  have HLEX := Lib.hid HB9.out.size
  have HLEY := Lib.hid HB10.out.size
  have HLEZ := Lib.hid HB11.out.size
  by_cases t : R = 0
  · have HRG := Lib.hid (HRE.out.symm.trans t)
    have hE1 : cmErr k ⟨1, m, ⟨#[]⟩⟩ l = F1 := by rw [HF1.out]; unfold planErr; rw [if_neg (by rw [HRG.out]; simp)]
    have hE2 : cmErr k ⟨2, noMod, nm⟩ l = F2 := by rw [HF2.out]; unfold planErr; rw [if_neg (by rw [HRG.out]; simp)]
    have hE3 : cmErr k ⟨3, m, ⟨#[]⟩⟩ l = F3 := by rw [HF3.out]; unfold planErr; rw [if_neg (by rw [HRG.out]; simp)]
    have g1 := Lib.hid (InstallOf_any k A c l m w12 HT12.out.1 HT12.out.2 HMO12.out HRG.out)
    rw [hE1] at g1
    have HE2 := Lib.hid hE2
    have HE3 := Lib.hid hE3
    subst t
    clear hE1 hE2 hE3
    obtain ⟨_, r0, r1, r2, r3, rf0, rf1, rf2, rf3⟩ := rgcells HR12.out
    obtain ⟨n0, n1, n2, n3, n4, n5, n6⟩ := box_mod HM12.out
    go_wp2_with fail
    refine (g1.out).mono ?_; rintro e w13 ⟨⟨k4, A4, l4, c4, rfl, ht, hkb, hlb, -, -, -⟩, hb13⟩
    have HB13 := Lib.hid (HB12.out.trans (hb13.mono HB12.out.size))
    have HT13 := Lib.hid (HT12.out.below hb13)
    have HMO13 := Lib.hid (HMO12.out.below hb13)
    have HR13 := Lib.hid (blk' hb13 HR12.out)
    have HM13 := Lib.hid (blk' hb13 HM12.out)
    have HP13 := Lib.hid (HP12.out.below hb13)
    have HA13 := Lib.hid (blk' hb13 HA12.out)
    have HQ13 := Lib.hid (HQ12.out.below hb13)
    have HD13 := Lib.hid (blk' hb13 HD12.out)
    have HV13 := Lib.hid (HV12.out.below hb13)
    have HE13 := Lib.hid (blk' hb13 HE12.out)
    have HX13 := Lib.hid (blk' hb13 HX12.out)
    have HY13 := Lib.hid (blk' hb13 HY12.out)
    have HZ13 := Lib.hid (blk' hb13 HZ12.out)
    have HG13 := Lib.hid ht
    have HK4 := Lib.hid (And.intro hkb hlb)
    clear r0 r1 r2 r3 rf0 rf1 rf2 rf3
    clear ht hkb hlb hb13 g1 n0 n1 n2 n3 n4 n5 n6
    obtain ⟨_, x0, x1, x2, x3, xf0, xf1, xf2, xf3⟩ := rgcells HX13.out
    obtain ⟨_, r0, r1, r2, r3, rf0, rf1, rf2, rf3⟩ := rgcells HR13.out
    have hq1 := hneRX.out
    have hq2 := hneRX.out.symm
    go_wp2_with fail
    obtain ⟨hg14, ho14⟩ := set4 HX13.out (.int .i64 k4.major) (.int .i64 k4.minor) (.slice k4.eA k4.ex.length k4.eC) (.slice A4 l4.length c4)
    obtain ⟨w14, hw14⟩ : ∃ W, W = (((w13.setCell ⟨w9.heap.size, 0, none⟩ (.int .i64 k4.major)).setCell ⟨w9.heap.size, 1, none⟩ (.int .i64 k4.minor)).setCell ⟨w9.heap.size, 2, none⟩ (.slice k4.eA k4.ex.length k4.eC)).setCell ⟨w9.heap.size, 3, none⟩ (.slice A4 l4.length c4) := ⟨_, rfl⟩
    rw [← hw14] at hg14 ho14
    rw [← hw14]
    clear hw14
    have HB14 := Lib.hid (HB13.out.trans ((ho14.below (Nat.le_of_lt (Array.getElem?_eq_some_iff.1 HX13.out).1)).mono HLEX.out))
    have HT14 := Lib.hid (HT13.out.other ⟨_, _, _, _, _, _, _, _, HX13.out⟩ ho14)
    have HMO14 := Lib.hid (Mod.ok.other ⟨_, _, _, _, _, _, _, _, HX13.out⟩ ho14 HMO13.out)
    have HR14 := Lib.hid ((ho14.block _ (Array.getElem?_eq_some_iff.1 HR13.out).1 (hneRX.out)).trans HR13.out)
    have HM14 := Lib.hid ((ho14.block _ (Array.getElem?_eq_some_iff.1 HM13.out).1 (hneMX.out)).trans HM13.out)
    have HP14 := Lib.hid (HP13.out.other ⟨_, _, _, _, _, _, _, _, HX13.out⟩ ho14)
    have HA14 := Lib.hid ((ho14.block _ (Array.getElem?_eq_some_iff.1 HA13.out).1 (hneAX.out)).trans HA13.out)
    have HQ14 := Lib.hid (HQ13.out.other ⟨_, _, _, _, _, _, _, _, HX13.out⟩ ho14)
    have HD14 := Lib.hid ((ho14.block _ (Array.getElem?_eq_some_iff.1 HD13.out).1 (hneDX.out)).trans HD13.out)
    have HV14 := Lib.hid (HV13.out.other ⟨_, _, _, _, _, _, _, _, HX13.out⟩ ho14)
    have HE14 := Lib.hid ((ho14.block _ (Array.getElem?_eq_some_iff.1 HE13.out).1 (hneEX.out)).trans HE13.out)
    have HX14 := Lib.hid (hg14)
    have HY14 := Lib.hid ((ho14.block _ (Array.getElem?_eq_some_iff.1 HY13.out).1 (hneXY.out.symm)).trans HY13.out)
    have HZ14 := Lib.hid ((ho14.block _ (Array.getElem?_eq_some_iff.1 HZ13.out).1 (hneXZ.out.symm)).trans HZ13.out)
    have HG14 := Lib.hid (HG13.out.other ⟨_, _, _, _, _, _, _, _, HX13.out⟩ ho14)
    clear hg14 ho14
    clear x0 x1 x2 x3 xf0 xf1 xf2 xf3; clear r0 r1 r2 r3 rf0 rf1 rf2 rf3
    have g2 := Lib.hid (RemoveOf_any k A c l nm w14 HT14.out.1 HT14.out.2 HRG.out)
    rw [HE2.out] at g2
    refine (g2.out).mono ?_; rintro e w15 ⟨⟨k5, A5, l5, c5, rfl, ht, hkb, hlb, -, -, -⟩, hb15⟩
    have HB15 := Lib.hid (HB14.out.trans (hb15.mono HB14.out.size))
    have HT15 := Lib.hid (HT14.out.below hb15)
    have HMO15 := Lib.hid (HMO14.out.below hb15)
    have HR15 := Lib.hid (blk' hb15 HR14.out)
    have HM15 := Lib.hid (blk' hb15 HM14.out)
    have HP15 := Lib.hid (HP14.out.below hb15)
    have HA15 := Lib.hid (blk' hb15 HA14.out)
    have HQ15 := Lib.hid (HQ14.out.below hb15)
    have HD15 := Lib.hid (blk' hb15 HD14.out)
    have HV15 := Lib.hid (HV14.out.below hb15)
    have HE15 := Lib.hid (blk' hb15 HE14.out)
    have HX15 := Lib.hid (blk' hb15 HX14.out)
    have HY15 := Lib.hid (blk' hb15 HY14.out)
    have HZ15 := Lib.hid (blk' hb15 HZ14.out)
    have HG15 := Lib.hid (HG14.out.below hb15)
    have HH15 := Lib.hid ht
    have HK5 := Lib.hid (And.intro hkb hlb)
    clear ht hkb hlb hb15 g2 hq1 hq2
    obtain ⟨_, x0, x1, x2, x3, xf0, xf1, xf2, xf3⟩ := rgcells HY15.out
    obtain ⟨_, r0, r1, r2, r3, rf0, rf1, rf2, rf3⟩ := rgcells HR15.out
    obtain ⟨n0, n1, n2, n3, n4, n5, n6⟩ := box_mod HM15.out
    have hq1 := hneRY.out
    have hq2 := hneRY.out.symm
    have hq3 := hneMY.out
    have hq4 := hneMY.out.symm
    go_wp2_with fail
    obtain ⟨hg16, ho16⟩ := set4 HY15.out (.int .i64 k5.major) (.int .i64 k5.minor) (.slice k5.eA k5.ex.length k5.eC) (.slice A5 l5.length c5)
    obtain ⟨w16, hw16⟩ : ∃ W, W = (((w15.setCell ⟨w10.heap.size, 0, none⟩ (.int .i64 k5.major)).setCell ⟨w10.heap.size, 1, none⟩ (.int .i64 k5.minor)).setCell ⟨w10.heap.size, 2, none⟩ (.slice k5.eA k5.ex.length k5.eC)).setCell ⟨w10.heap.size, 3, none⟩ (.slice A5 l5.length c5) := ⟨_, rfl⟩
    rw [← hw16] at hg16 ho16
    rw [← hw16]
    clear hw16
    have HB16 := Lib.hid (HB15.out.trans ((ho16.below (Nat.le_of_lt (Array.getElem?_eq_some_iff.1 HY15.out).1)).mono HLEY.out))
    have HT16 := Lib.hid (HT15.out.other ⟨_, _, _, _, _, _, _, _, HY15.out⟩ ho16)
    have HMO16 := Lib.hid (Mod.ok.other ⟨_, _, _, _, _, _, _, _, HY15.out⟩ ho16 HMO15.out)
    have HR16 := Lib.hid ((ho16.block _ (Array.getElem?_eq_some_iff.1 HR15.out).1 (hneRY.out)).trans HR15.out)
    have HM16 := Lib.hid ((ho16.block _ (Array.getElem?_eq_some_iff.1 HM15.out).1 (hneMY.out)).trans HM15.out)
    have HP16 := Lib.hid (HP15.out.other ⟨_, _, _, _, _, _, _, _, HY15.out⟩ ho16)
    have HA16 := Lib.hid ((ho16.block _ (Array.getElem?_eq_some_iff.1 HA15.out).1 (hneAY.out)).trans HA15.out)
    have HQ16 := Lib.hid (HQ15.out.other ⟨_, _, _, _, _, _, _, _, HY15.out⟩ ho16)
    have HD16 := Lib.hid ((ho16.block _ (Array.getElem?_eq_some_iff.1 HD15.out).1 (hneDY.out)).trans HD15.out)
    have HV16 := Lib.hid (HV15.out.other ⟨_, _, _, _, _, _, _, _, HY15.out⟩ ho16)
    have HE16 := Lib.hid ((ho16.block _ (Array.getElem?_eq_some_iff.1 HE15.out).1 (hneEY.out)).trans HE15.out)
    have HX16 := Lib.hid ((ho16.block _ (Array.getElem?_eq_some_iff.1 HX15.out).1 (hneXY.out)).trans HX15.out)
    have HY16 := Lib.hid (hg16)
    have HZ16 := Lib.hid ((ho16.block _ (Array.getElem?_eq_some_iff.1 HZ15.out).1 (hneYZ.out.symm)).trans HZ15.out)
    have HG16 := Lib.hid (HG15.out.other ⟨_, _, _, _, _, _, _, _, HY15.out⟩ ho16)
    have HH16 := Lib.hid (HH15.out.other ⟨_, _, _, _, _, _, _, _, HY15.out⟩ ho16)
    clear hg16 ho16
    clear x0 x1 x2 x3 xf0 xf1 xf2 xf3; clear r0 r1 r2 r3 rf0 rf1 rf2 rf3
    have g3 := Lib.hid (UpgradeOf_any k A c l m w16 HT16.out.1 HT16.out.2 HMO16.out HRG.out)
    rw [HE3.out] at g3
    refine (g3.out).mono ?_; rintro e w17 ⟨⟨k6, A6, l6, c6, rfl, ht, hkb, hlb, -, -, -⟩, hb17⟩
    have HB17 := Lib.hid (HB16.out.trans (hb17.mono HB16.out.size))
    have HT17 := Lib.hid (HT16.out.below hb17)
    have HMO17 := Lib.hid (HMO16.out.below hb17)
    have HR17 := Lib.hid (blk' hb17 HR16.out)
    have HM17 := Lib.hid (blk' hb17 HM16.out)
    have HP17 := Lib.hid (HP16.out.below hb17)
    have HA17 := Lib.hid (blk' hb17 HA16.out)
    have HQ17 := Lib.hid (HQ16.out.below hb17)
    have HD17 := Lib.hid (blk' hb17 HD16.out)
    have HV17 := Lib.hid (HV16.out.below hb17)
    have HE17 := Lib.hid (blk' hb17 HE16.out)
    have HX17 := Lib.hid (blk' hb17 HX16.out)
    have HY17 := Lib.hid (blk' hb17 HY16.out)
    have HZ17 := Lib.hid (blk' hb17 HZ16.out)
    have HG17 := Lib.hid (HG16.out.below hb17)
    have HH17 := Lib.hid (HH16.out.below hb17)
    have HJ17 := Lib.hid ht
    have HK6 := Lib.hid (And.intro hkb hlb)
    clear ht hkb hlb hb17 g3 n0 n1 n2 n3 n4 n5 n6 hq1 hq2 hq3 hq4
    obtain ⟨_, x0, x1, x2, x3, xf0, xf1, xf2, xf3⟩ := rgcells HZ17.out
    go_wp2_with fail
    obtain ⟨hg18, ho18⟩ := set4 HZ17.out (.int .i64 k6.major) (.int .i64 k6.minor) (.slice k6.eA k6.ex.length k6.eC) (.slice A6 l6.length c6)
    obtain ⟨w18, hw18⟩ : ∃ W, W = (((w17.setCell ⟨w11.heap.size, 0, none⟩ (.int .i64 k6.major)).setCell ⟨w11.heap.size, 1, none⟩ (.int .i64 k6.minor)).setCell ⟨w11.heap.size, 2, none⟩ (.slice k6.eA k6.ex.length k6.eC)).setCell ⟨w11.heap.size, 3, none⟩ (.slice A6 l6.length c6) := ⟨_, rfl⟩
    rw [← hw18] at hg18 ho18
    rw [← hw18]
    clear hw18
    have HB18 := Lib.hid (HB17.out.trans ((ho18.below (Nat.le_of_lt (Array.getElem?_eq_some_iff.1 HZ17.out).1)).mono HLEZ.out))
    have HT18 := Lib.hid (HT17.out.other ⟨_, _, _, _, _, _, _, _, HZ17.out⟩ ho18)
    have HMO18 := Lib.hid (Mod.ok.other ⟨_, _, _, _, _, _, _, _, HZ17.out⟩ ho18 HMO17.out)
    have HR18 := Lib.hid ((ho18.block _ (Array.getElem?_eq_some_iff.1 HR17.out).1 (hneRZ.out)).trans HR17.out)
    have HM18 := Lib.hid ((ho18.block _ (Array.getElem?_eq_some_iff.1 HM17.out).1 (hneMZ.out)).trans HM17.out)
    have HP18 := Lib.hid (HP17.out.other ⟨_, _, _, _, _, _, _, _, HZ17.out⟩ ho18)
    have HA18 := Lib.hid ((ho18.block _ (Array.getElem?_eq_some_iff.1 HA17.out).1 (hneAZ.out)).trans HA17.out)
    have HQ18 := Lib.hid (HQ17.out.other ⟨_, _, _, _, _, _, _, _, HZ17.out⟩ ho18)
    have HD18 := Lib.hid ((ho18.block _ (Array.getElem?_eq_some_iff.1 HD17.out).1 (hneDZ.out)).trans HD17.out)
    have HV18 := Lib.hid (HV17.out.other ⟨_, _, _, _, _, _, _, _, HZ17.out⟩ ho18)
    have HE18 := Lib.hid ((ho18.block _ (Array.getElem?_eq_some_iff.1 HE17.out).1 (hneEZ.out)).trans HE17.out)
    have HX18 := Lib.hid ((ho18.block _ (Array.getElem?_eq_some_iff.1 HX17.out).1 (hneXZ.out)).trans HX17.out)
    have HY18 := Lib.hid ((ho18.block _ (Array.getElem?_eq_some_iff.1 HY17.out).1 (hneYZ.out)).trans HY17.out)
    have HZ18 := Lib.hid (hg18)
    have HG18 := Lib.hid (HG17.out.other ⟨_, _, _, _, _, _, _, _, HZ17.out⟩ ho18)
    have HH18 := Lib.hid (HH17.out.other ⟨_, _, _, _, _, _, _, _, HZ17.out⟩ ho18)
    have HJ18 := Lib.hid (HJ17.out.other ⟨_, _, _, _, _, _, _, _, HZ17.out⟩ ho18)
    clear hg18 ho18
    clear x0 x1 x2 x3 xf0 xf1 xf2 xf3
    refine (planBegun_any _).mono ?_; rintro e w19 ⟨rfl, hb19⟩
    have HB19 := Lib.hid (HB18.out.trans (hb19.mono HB18.out.size))
    have HT19 := Lib.hid (HT18.out.below hb19)
    have HMO19 := Lib.hid (HMO18.out.below hb19)
    have HR19 := Lib.hid (blk' hb19 HR18.out)
    have HM19 := Lib.hid (blk' hb19 HM18.out)
    have HP19 := Lib.hid (HP18.out.below hb19)
    have HA19 := Lib.hid (blk' hb19 HA18.out)
    have HQ19 := Lib.hid (HQ18.out.below hb19)
    have HD19 := Lib.hid (blk' hb19 HD18.out)
    have HV19 := Lib.hid (HV18.out.below hb19)
    have HE19 := Lib.hid (blk' hb19 HE18.out)
    have HX19 := Lib.hid (blk' hb19 HX18.out)
    have HY19 := Lib.hid (blk' hb19 HY18.out)
    have HZ19 := Lib.hid (blk' hb19 HZ18.out)
    have HG19 := Lib.hid (HG18.out.below hb19)
    have HH19 := Lib.hid (HH18.out.below hb19)
    have HJ19 := Lib.hid (HJ18.out.below hb19)
    clear hb19
    have q1 := Lib.hid (registryIs_any F1 k1 k4 A1 A4 c1 c4 l1 l4 w19 HP19.out.1 HP19.out.2 HG19.out.1 HG19.out.2 (doc_same HS1.out HK4.out) (fun e => HS1.out.2 e))
    obtain ⟨_, x0, x1, x2, x3, xf0, xf1, xf2, xf3⟩ := rgcells HA19.out
    obtain ⟨_, y0, y1, y2, y3, yf0, yf1, yf2, yf3⟩ := rgcells HX19.out
    go_wp2_with fail
    refine (q1.out).mono ?_; rintro e w20 ⟨rfl, hb20⟩
    have HB20 := Lib.hid (HB19.out.trans (hb20.mono HB19.out.size))
    have HT20 := Lib.hid (HT19.out.below hb20)
    have HMO20 := Lib.hid (HMO19.out.below hb20)
    have HR20 := Lib.hid (blk' hb20 HR19.out)
    have HM20 := Lib.hid (blk' hb20 HM19.out)
    have HP20 := Lib.hid (HP19.out.below hb20)
    have HA20 := Lib.hid (blk' hb20 HA19.out)
    have HQ20 := Lib.hid (HQ19.out.below hb20)
    have HD20 := Lib.hid (blk' hb20 HD19.out)
    have HV20 := Lib.hid (HV19.out.below hb20)
    have HE20 := Lib.hid (blk' hb20 HE19.out)
    have HX20 := Lib.hid (blk' hb20 HX19.out)
    have HY20 := Lib.hid (blk' hb20 HY19.out)
    have HZ20 := Lib.hid (blk' hb20 HZ19.out)
    have HG20 := Lib.hid (HG19.out.below hb20)
    have HH20 := Lib.hid (HH19.out.below hb20)
    have HJ20 := Lib.hid (HJ19.out.below hb20)
    clear x0 x1 x2 x3 xf0 xf1 xf2 xf3; clear y0 y1 y2 y3 yf0 yf1 yf2 yf3
    clear hb20 q1
    have q2 := Lib.hid (registryIs_any F2 k2 k5 A2 A5 c2 c5 l2 l5 w20 HQ20.out.1 HQ20.out.2 HH20.out.1 HH20.out.2 (doc_same HS2.out HK5.out) (fun e => HS2.out.2 e))
    obtain ⟨_, x0, x1, x2, x3, xf0, xf1, xf2, xf3⟩ := rgcells HD20.out
    obtain ⟨_, y0, y1, y2, y3, yf0, yf1, yf2, yf3⟩ := rgcells HY20.out
    go_wp2_with fail
    refine (q2.out).mono ?_; rintro e w21 ⟨rfl, hb21⟩
    have HB21 := Lib.hid (HB20.out.trans (hb21.mono HB20.out.size))
    have HT21 := Lib.hid (HT20.out.below hb21)
    have HMO21 := Lib.hid (HMO20.out.below hb21)
    have HR21 := Lib.hid (blk' hb21 HR20.out)
    have HM21 := Lib.hid (blk' hb21 HM20.out)
    have HP21 := Lib.hid (HP20.out.below hb21)
    have HA21 := Lib.hid (blk' hb21 HA20.out)
    have HQ21 := Lib.hid (HQ20.out.below hb21)
    have HD21 := Lib.hid (blk' hb21 HD20.out)
    have HV21 := Lib.hid (HV20.out.below hb21)
    have HE21 := Lib.hid (blk' hb21 HE20.out)
    have HX21 := Lib.hid (blk' hb21 HX20.out)
    have HY21 := Lib.hid (blk' hb21 HY20.out)
    have HZ21 := Lib.hid (blk' hb21 HZ20.out)
    have HG21 := Lib.hid (HG20.out.below hb21)
    have HH21 := Lib.hid (HH20.out.below hb21)
    have HJ21 := Lib.hid (HJ20.out.below hb21)
    clear x0 x1 x2 x3 xf0 xf1 xf2 xf3; clear y0 y1 y2 y3 yf0 yf1 yf2 yf3
    clear hb21 q2
    have q3 := Lib.hid (registryIs_any F3 k3 k6 A3 A6 c3 c6 l3 l6 w21 HV21.out.1 HV21.out.2 HJ21.out.1 HJ21.out.2 (doc_same HS3.out HK6.out) (fun e => HS3.out.2 e))
    obtain ⟨_, x0, x1, x2, x3, xf0, xf1, xf2, xf3⟩ := rgcells HE21.out
    obtain ⟨_, y0, y1, y2, y3, yf0, yf1, yf2, yf3⟩ := rgcells HZ21.out
    go_wp2_with fail
    refine (q3.out).mono ?_; rintro e w22 ⟨rfl, hb22⟩
    have HB22 := Lib.hid (HB21.out.trans (hb22.mono HB21.out.size))
    have HT22 := Lib.hid (HT21.out.below hb22)
    have HMO22 := Lib.hid (HMO21.out.below hb22)
    have HR22 := Lib.hid (blk' hb22 HR21.out)
    have HM22 := Lib.hid (blk' hb22 HM21.out)
    have HP22 := Lib.hid (HP21.out.below hb22)
    have HA22 := Lib.hid (blk' hb22 HA21.out)
    have HQ22 := Lib.hid (HQ21.out.below hb22)
    have HD22 := Lib.hid (blk' hb22 HD21.out)
    have HV22 := Lib.hid (HV21.out.below hb22)
    have HE22 := Lib.hid (blk' hb22 HE21.out)
    have HX22 := Lib.hid (blk' hb22 HX21.out)
    have HY22 := Lib.hid (blk' hb22 HY21.out)
    have HZ22 := Lib.hid (blk' hb22 HZ21.out)
    have HG22 := Lib.hid (HG21.out.below hb22)
    have HH22 := Lib.hid (HH21.out.below hb22)
    have HJ22 := Lib.hid (HJ21.out.below hb22)
    clear x0 x1 x2 x3 xf0 xf1 xf2 xf3; clear y0 y1 y2 y3 yf0 yf1 yf2 yf3
    clear hb22 q3
    go_wp2_with fail
    go_ret
    exact ⟨by simp, HB22.out⟩
  · have hF1 : F1 = R := by rw [HF1.out, HRE.out]; unfold planErr; rw [if_pos (by rw [← HRE.out]; exact t)]
    have hF2 : F2 = R := by rw [HF2.out, HRE.out]; unfold planErr; rw [if_pos (by rw [← HRE.out]; exact t)]
    have hF3 : F3 = R := by rw [HF3.out, HRE.out]; unfold planErr; rw [if_pos (by rw [← HRE.out]; exact t)]
    have t' : (R == 0) = false := by simp [t]
    have T0 := Lib.hid t
    subst hF1
    subst hF2
    subst hF3
    have T := Lib.hid (show F3 ≠ 0 from T0.out)
    clear t T0
    go_wp2_with fail
    refine (planBegun_any _).mono ?_; rintro e w19 ⟨rfl, hb19⟩
    have HB19 := Lib.hid (HB12.out.trans (hb19.mono HB12.out.size))
    have HT19 := Lib.hid (HT12.out.below hb19)
    have HMO19 := Lib.hid (HMO12.out.below hb19)
    have HR19 := Lib.hid (blk' hb19 HR12.out)
    have HM19 := Lib.hid (blk' hb19 HM12.out)
    have HP19 := Lib.hid (HP12.out.below hb19)
    have HA19 := Lib.hid (blk' hb19 HA12.out)
    have HQ19 := Lib.hid (HQ12.out.below hb19)
    have HD19 := Lib.hid (blk' hb19 HD12.out)
    have HV19 := Lib.hid (HV12.out.below hb19)
    have HE19 := Lib.hid (blk' hb19 HE12.out)
    have HX19 := Lib.hid (blk' hb19 HX12.out)
    have HY19 := Lib.hid (blk' hb19 HY12.out)
    have HZ19 := Lib.hid (blk' hb19 HZ12.out)
    clear hb19
    have q1 := Lib.hid (show Calls Tryz.prog 43 #[rgV k1 A1 l1 c1, .int .i64 F3, .int .i64 F3, .agg #[.int .i64 0, .int .i64 0, .slice none 0 0, .slice none 0 0]] w19 fun e w' => e = .returned (.bool true) ∧ Below w19.heap.size w19 w' from
      registryIs_any F3 k1 noKrn A1 none c1 0 l1 [] w19 HP19.out.1 HP19.out.2 (noKrn_ok _) ⟨Row.nil, Nat.zero_le _, by simp⟩ (fun e => absurd e T.out) (fun e => HS1.out.2 e))
    obtain ⟨_, x0, x1, x2, x3, xf0, xf1, xf2, xf3⟩ := rgcells HA19.out
    obtain ⟨_, y0, y1, y2, y3, yf0, yf1, yf2, yf3⟩ := rgcells HX19.out
    go_wp2_with fail
    refine (q1.out).mono ?_; rintro e w20 ⟨rfl, hb20⟩
    have HB20 := Lib.hid (HB19.out.trans (hb20.mono HB19.out.size))
    have HT20 := Lib.hid (HT19.out.below hb20)
    have HMO20 := Lib.hid (HMO19.out.below hb20)
    have HR20 := Lib.hid (blk' hb20 HR19.out)
    have HM20 := Lib.hid (blk' hb20 HM19.out)
    have HP20 := Lib.hid (HP19.out.below hb20)
    have HA20 := Lib.hid (blk' hb20 HA19.out)
    have HQ20 := Lib.hid (HQ19.out.below hb20)
    have HD20 := Lib.hid (blk' hb20 HD19.out)
    have HV20 := Lib.hid (HV19.out.below hb20)
    have HE20 := Lib.hid (blk' hb20 HE19.out)
    have HX20 := Lib.hid (blk' hb20 HX19.out)
    have HY20 := Lib.hid (blk' hb20 HY19.out)
    have HZ20 := Lib.hid (blk' hb20 HZ19.out)
    clear x0 x1 x2 x3 xf0 xf1 xf2 xf3; clear y0 y1 y2 y3 yf0 yf1 yf2 yf3
    clear hb20 q1
    have q2 := Lib.hid (show Calls Tryz.prog 43 #[rgV k2 A2 l2 c2, .int .i64 F3, .int .i64 F3, .agg #[.int .i64 0, .int .i64 0, .slice none 0 0, .slice none 0 0]] w20 fun e w' => e = .returned (.bool true) ∧ Below w20.heap.size w20 w' from
      registryIs_any F3 k2 noKrn A2 none c2 0 l2 [] w20 HQ20.out.1 HQ20.out.2 (noKrn_ok _) ⟨Row.nil, Nat.zero_le _, by simp⟩ (fun e => absurd e T.out) (fun e => HS2.out.2 e))
    obtain ⟨_, x0, x1, x2, x3, xf0, xf1, xf2, xf3⟩ := rgcells HD20.out
    obtain ⟨_, y0, y1, y2, y3, yf0, yf1, yf2, yf3⟩ := rgcells HY20.out
    go_wp2_with fail
    refine (q2.out).mono ?_; rintro e w21 ⟨rfl, hb21⟩
    have HB21 := Lib.hid (HB20.out.trans (hb21.mono HB20.out.size))
    have HT21 := Lib.hid (HT20.out.below hb21)
    have HMO21 := Lib.hid (HMO20.out.below hb21)
    have HR21 := Lib.hid (blk' hb21 HR20.out)
    have HM21 := Lib.hid (blk' hb21 HM20.out)
    have HP21 := Lib.hid (HP20.out.below hb21)
    have HA21 := Lib.hid (blk' hb21 HA20.out)
    have HQ21 := Lib.hid (HQ20.out.below hb21)
    have HD21 := Lib.hid (blk' hb21 HD20.out)
    have HV21 := Lib.hid (HV20.out.below hb21)
    have HE21 := Lib.hid (blk' hb21 HE20.out)
    have HX21 := Lib.hid (blk' hb21 HX20.out)
    have HY21 := Lib.hid (blk' hb21 HY20.out)
    have HZ21 := Lib.hid (blk' hb21 HZ20.out)
    clear x0 x1 x2 x3 xf0 xf1 xf2 xf3; clear y0 y1 y2 y3 yf0 yf1 yf2 yf3
    clear hb21 q2
    have q3 := Lib.hid (show Calls Tryz.prog 43 #[rgV k3 A3 l3 c3, .int .i64 F3, .int .i64 F3, .agg #[.int .i64 0, .int .i64 0, .slice none 0 0, .slice none 0 0]] w21 fun e w' => e = .returned (.bool true) ∧ Below w21.heap.size w21 w' from
      registryIs_any F3 k3 noKrn A3 none c3 0 l3 [] w21 HV21.out.1 HV21.out.2 (noKrn_ok _) ⟨Row.nil, Nat.zero_le _, by simp⟩ (fun e => absurd e T.out) (fun e => HS3.out.2 e))
    obtain ⟨_, x0, x1, x2, x3, xf0, xf1, xf2, xf3⟩ := rgcells HE21.out
    obtain ⟨_, y0, y1, y2, y3, yf0, yf1, yf2, yf3⟩ := rgcells HZ21.out
    go_wp2_with fail
    refine (q3.out).mono ?_; rintro e w22 ⟨rfl, hb22⟩
    have HB22 := Lib.hid (HB21.out.trans (hb22.mono HB21.out.size))
    have HT22 := Lib.hid (HT21.out.below hb22)
    have HMO22 := Lib.hid (HMO21.out.below hb22)
    have HR22 := Lib.hid (blk' hb22 HR21.out)
    have HM22 := Lib.hid (blk' hb22 HM21.out)
    have HP22 := Lib.hid (HP21.out.below hb22)
    have HA22 := Lib.hid (blk' hb22 HA21.out)
    have HQ22 := Lib.hid (HQ21.out.below hb22)
    have HD22 := Lib.hid (blk' hb22 HD21.out)
    have HV22 := Lib.hid (HV21.out.below hb22)
    have HE22 := Lib.hid (blk' hb22 HE21.out)
    have HX22 := Lib.hid (blk' hb22 HX21.out)
    have HY22 := Lib.hid (blk' hb22 HY21.out)
    have HZ22 := Lib.hid (blk' hb22 HZ21.out)
    clear x0 x1 x2 x3 xf0 xf1 xf2 xf3; clear y0 y1 y2 y3 yf0 yf1 yf2 yf3
    clear hb22 q3
    go_wp2_with fail
    go_ret
    exact ⟨by simp, HB22.out⟩

set_option maxHeartbeats 0 in
theorem planTells_closed : joinedFacts Tryz.prog 5 Tryz.f5 Rows.planTellsSpec Rows.planTellsRow = true := by
  unfold joinedFacts
  simp only [Bool.and_eq_true]
  and_intros
  · as_aux_lemma => kernel_rfl
  · exact Tryz.laidOut
  · exact Tryz.k_mapsRowed
  · as_aux_lemma => kernel_rfl
  · as_aux_lemma => kernel_rfl
  · as_aux_lemma => kernel_rfl
  · exact Tryz.k_stops
  · as_aux_lemma => kernel_rfl
  · exact Tryz.k_stopKnobs
  · as_aux_lemma => kernel_rfl
  · as_aux_lemma => kernel_rfl
  · as_aux_lemma => kernel_rfl
  · as_aux_lemma => kernel_rfl
  · as_aux_lemma => kernel_rfl
  · as_aux_lemma => kernel_rfl
  · as_aux_lemma => kernel_rfl
  · as_aux_lemma => kernel_rfl
  · as_aux_lemma => kernel_rfl
  · as_aux_lemma => kernel_rfl
  · as_aux_lemma => kernel_rfl
  · as_aux_lemma => kernel_rfl
  · as_aux_lemma => kernel_rfl
  · exact Tryz.k_plainKeys
  · as_aux_lemma => kernel_rfl
  · exact Tryz.k_stopsHeard
  · exact Tryz.k_mayEnter
  · exact Tryz.k_lifts
  · exact Tryz.k_make
  · as_aux_lemma => kernel_rfl
  · as_aux_lemma => kernel_rfl
  · as_aux_lemma => kernel_rfl
  · as_aux_lemma => kernel_rfl

set_option maxRecDepth 100000 in
theorem planTells_lifted (os : Os) (started : os.Started) (H : Type) (enc : TypeId × Value → H) :
    ReturnsInHanded {} Tryz.checked os 5 .any (Rows.planTellsSpec.pre6 enc Tryz.prog Tryz.f5 Rows.planTellsRow.domain false) (Rows.planTellsSpec.post enc Tryz.prog Tryz.f5 false true false false) := by
  refine returnsInHanded_of_change_sized (C := Tryz.checked) Tryz.own started (by kernel_rfl) Tryz.func5
    (ChangeSpec.witness6 (enc := enc) (C := Tryz.checked) false ⟨#[], #[.agg #[.int .i64 0, .int .i64 0, .slice none 0 0, .slice none 0 0], .agg #[.string ⟨#[]⟩, .int .i64 0, .int .i64 0, .string ⟨#[]⟩, .slice none 0 0, .slice none 0 0, .slice none 0 0], .string ⟨#[]⟩], []⟩ 8 (by kernel_rfl) (by kernel_rfl) (by kernel_rfl) (by kernel_rfl)) ?_
  intro W base args ds gs before hval0 hW hcnd hsz0 _
  have hval : ∀ (j : Nat) t v, Tryz.f5.params[j]? = some t → args[j]? = some v → Value.okWide Tryz.prog W .any base t v := hval0
  have hsz : (DataW.weightsEach Tryz.prog (Tryz.f5.params.toList ++ Rows.planTellsSpec.plain.varTypes Tryz.prog) (ds ++ gs)).all (· ≤ reachBytes) = true := hsz0
  have hW' := hW
  obtain ⟨p, q, hA0, hV, rfl, hfz, hnd⟩ := hW
  have hA : DataW.TrodAll enc Tryz.prog W 0 (fun _ => true) true Tryz.f5.params.toList args.toList ds p := hA0
  rw [Tryz.params5] at hA hval hsz
  obtain ⟨v0, vs0, d0, ds0, p0, q0, hargs, rfl, rfl, h0, r0⟩ := trodAll_cons hA
  obtain ⟨v1, vs1, d1, ds1, p1, q1, rfl, rfl, rfl, h1, r1⟩ := trodAll_cons r0
  obtain ⟨v2, vs2, d2, ds2, p2, q2, rfl, rfl, rfl, h2, r2⟩ := trodAll_cons r1
  obtain ⟨rfl, rfl, rfl⟩ := trodAll_nil r2
  obtain rfl : args = #[v0, v1, v2] := by cases args; simp_all
  obtain ⟨rfl, rfl⟩ := trodVars_none hV
  have ft0 := fits_each hsz (j := 0) rfl rfl
  obtain ⟨rK, rA, rL, rC, rfl, okk0, okl0⟩ := open_Registry (hval 0 39 v0 rfl rfl) h0 ft0
  have ft1 := fits_each hsz (j := 1) rfl rfl
  obtain ⟨m, rfl, ok1⟩ := open_Module (hval 1 70 v1 rfl rfl) h1 ft1
  obtain ⟨nm, rfl, rfl, rfl, w2⟩ := open_string Tryz.underlying9 (hval 2 9 v2 rfl rfl) h2
  have z2 : nm.size ≤ 140737488351232 := by have := sized_string hsz (j := 2) (t := 9) rfl rfl; simpa [reachBytes] using this
  refine (PlanTells_any rK rA rL rC m nm W okk0 okl0 ok1 z2).mono fun e W' ⟨he, hb⟩ => ?_
  subst he
  exact ⟨_, rfl, law_post Tryz.laidOut hW' rfl (by decide +kernel) rfl Tryz.underlying4 rfl rfl rfl hb⟩

theorem planTells_holds : Rows.PlanTellsSaid :=
  OpenClaim.holds_of_wide 5 Tryz.f5 rfl rfl rfl rfl rfl rfl rfl ⟨rfl, rfl, rfl, rfl, rfl⟩ rfl rfl rfl rfl rfl (by kernel_rfl) Tryz.func5 planTells_closed
    (of_decide_eq_true (by kernel_rfl)) (by unfold Func.isWrapper; first | (rw [if_pos (by decide +kernel)]; kernel_rfl) | (rw [if_neg (by decide +kernel)]; exact ⟨rfl, rfl⟩))
    (fun os started H enc _ => planTells_lifted os started H enc)
#print axioms planTells_holds


end Go.Proofs.YtjiedaialianmaaGreat
