import Derived.Test.YtogckcjcebckgaaGreatKOthersW
import Derived.Test.YtogckcjcebckgaaGreatG08
import Derived.Test.YtogckcjcebckgaaGreatKShut

namespace Go.Proofs.YtogckcjcebckgaaGreat
open Go.ChangeShapes Go.WideShapes Go.ChangeAt Go.RowKit Go.WideMaps Go.WideElems
open Go.ChangeMaps (setBlock shut_map_nil open_string shut_string keptBut_setBlock frozen?_setBlock heap_setBlock_same)

theorem cm_facts {k k1 : Krn} {l l1 : List Plc} {cm : Cm} (h : planErr k cm l = 0) (hk1 : k1.bare = k.bare) (hl1 : bares l1 = bares (cmL cm l)) :
    rgErr k1 l1 = 0 ∧ (txs l1).Nodup ∧ (txs l).Nodup ∧ OthersIn l l1 (cmName cm) ∧ OthersIn l1 l (cmName cm) ∧ l1.length = (cmL cm l).length ∧ l.length ≤ 8 ∧ l1.length ≤ 8 := by
  obtain ⟨h0, _, hp, hr⟩ := plan_zero h
  have h1 : rgErr k1 l1 = 0 := by rw [rgErr_like hk1 hl1]; exact hr
  obtain ⟨o1, o2⟩ := others_cm (l' := l) hp hl1 rfl
  exact ⟨h1, rg_nodup h1, rg_nodup h0, o1, o2, len_like hl1, (rg_facts h0).2.2.1, (rg_facts h1).2.2.1⟩
theorem inst_facts {k k1 : Krn} {l l1 : List Plc} {m : Mod} (h : planErr k ⟨1, m, ⟨#[]⟩⟩ l = 0) (hk1 : k1.bare = k.bare) (hl1 : bares l1 = bares (cmL ⟨1, m, ⟨#[]⟩⟩ l)) :
    rgErr k1 l1 = 0 ∧ (txs l1).Nodup ∧ (txs l).Nodup ∧ OthersIn l l1 m.name ∧ OthersIn l1 l m.name ∧ (l1.length : Int) = l.length + 1 ∧ l.length ≤ 8 ∧ l1.length ≤ 8 := by
  obtain ⟨a, b, c, d, e, f, g, i⟩ := cm_facts h hk1 hl1
  have h1 := inst_length l m
  have f' : l1.length = (instL l m).length := f
  exact ⟨a, b, c, d, e, by omega, g, i⟩
theorem rem_facts {k k1 : Krn} {l l1 : List Plc} {nm : ByteArray} (h : planErr k ⟨2, noMod, nm⟩ l = 0) (hk1 : k1.bare = k.bare) (hl1 : bares l1 = bares (cmL ⟨2, noMod, nm⟩ l)) :
    rgErr k1 l1 = 0 ∧ (txs l1).Nodup ∧ (txs l).Nodup ∧ OthersIn l l1 nm ∧ OthersIn l1 l nm ∧ (l1.length : Int) = l.length - 1 ∧ l.length ≤ 8 ∧ l1.length ≤ 8 := by
  obtain ⟨a, b, c, d, e, f, g, i⟩ := cm_facts h hk1 hl1
  have hp : remPre l nm = 0 := (plan_zero h).2.2.1
  have h1 := rem_length (rem_zero hp).1
  have f' : l1.length = (remL l nm).length := f
  exact ⟨a, b, c, d, e, by omega, g, i⟩
theorem upg_facts {k k1 : Krn} {l l1 : List Plc} {m : Mod} (h : planErr k ⟨3, m, ⟨#[]⟩⟩ l = 0) (hk1 : k1.bare = k.bare) (hl1 : bares l1 = bares (cmL ⟨3, m, ⟨#[]⟩⟩ l)) :
    rgErr k1 l1 = 0 ∧ (txs l1).Nodup ∧ (txs l).Nodup ∧ OthersIn l l1 m.name ∧ OthersIn l1 l m.name ∧ (l1.length : Int) = l.length ∧ l.length ≤ 8 ∧ l1.length ≤ 8 := by
  obtain ⟨a, b, c, d, e, f, g, i⟩ := cm_facts h hk1 hl1
  have hp : upgPre l m = 0 := (plan_zero h).2.2.1
  have h1 := upg_length hp
  have f' : l1.length = (upgL l m).length := f
  exact ⟨a, b, c, d, e, by omega, g, i⟩

set_option maxRecDepth 100000 in
set_option maxHeartbeats 4000000 in
theorem PlanOthers_any (k : Krn) (A : Option Addr) (l : List Plc) (c : Nat) (m : Mod) (nm : ByteArray) (w : World) (hk : k.ok w) (h : PlsOk w A l) (hm : m.ok w) (_hn : nm.size ≤ 140737488351232) :
    Calls Tryz.prog 8 #[.agg #[.int .i64 k.major, .int .i64 k.minor, .slice k.eA k.ex.length k.eC, .slice A l.length c], m.v, .string nm] w fun e w' => e = .returned (.bool true) ∧ Below w.heap.size w w' := by
  obtain ⟨w0, e0⟩ : ∃ w0, w0 = w := ⟨_, rfl⟩
  have HB0 := Lib.hid (show Below w.heap.size w w0 from e0 ▸ Below.refl _ _)
  have HT0 := Lib.hid (show RgThere w0 k A l from e0 ▸ ⟨hk, h⟩)
  have HMO0 := Lib.hid (show m.ok w0 from e0 ▸ hm)
  subst e0
  obtain ⟨w1, hw1⟩ : ∃ w1, w1 = w0.alloc (.cells #[.int .i64 k.major, .int .i64 k.minor, .slice k.eA k.ex.length k.eC, .slice A l.length c] 39) := ⟨_, rfl⟩
  have hb1 : Below w0.heap.size w0 w1 := hw1 ▸ (Below.refl _ _).alloc (Nat.le_refl _) _
  have HB1 := Lib.hid (HB0.out.trans (hb1.mono HB0.out.size))
  have HT1 := Lib.hid (HT0.out.below hb1)
  have HMO1 := Lib.hid (HMO0.out.below hb1)
  have HR1 := Lib.hid (show w1.heap[w0.heap.size]? = some (.cells #[.int .i64 k.major, .int .i64 k.minor, .slice k.eA k.ex.length k.eC, .slice A l.length c] 39 (0, 0)) by rw [hw1]; exact heap_alloc_new w0 _)
  have HSZ1 := Lib.hid (show w1.heap.size = w0.heap.size + 1 by rw [hw1]; simp)
  have hw1' := hw1.symm
  clear hw1 hb1
  obtain ⟨w2, hw2⟩ : ∃ w2, w2 = w1.alloc (.cells #[.string m.name, .int .i64 m.major, .int .i64 m.minor, .string m.text, .slice m.eA m.ex.length m.eC, .slice m.iA m.im.length m.iC, .slice m.pA m.pa.length m.pC] 75) := ⟨_, rfl⟩
  have hb2 : Below w1.heap.size w1 w2 := hw2 ▸ (Below.refl _ _).alloc (Nat.le_refl _) _
  have hneRM := Lib.hid (Nat.ne_of_lt (Array.getElem?_eq_some_iff.1 HR1.out).1)
  have HB2 := Lib.hid (HB1.out.trans (hb2.mono HB1.out.size))
  have HT2 := Lib.hid (HT1.out.below hb2)
  have HMO2 := Lib.hid (HMO1.out.below hb2)
  have HR2 := Lib.hid (blk' hb2 HR1.out)
  have HM2 := Lib.hid (show w2.heap[w1.heap.size]? = some (.cells #[.string m.name, .int .i64 m.major, .int .i64 m.minor, .string m.text, .slice m.eA m.ex.length m.eC, .slice m.iA m.im.length m.iC, .slice m.pA m.pa.length m.pC] 75 (0, 0)) by rw [hw2]; exact heap_alloc_new w1 _)
  have HSZ2 := Lib.hid (show w2.heap.size = w1.heap.size + 1 by rw [hw2]; simp)
  have hw2' := hw2.symm
  clear hw2 hb2
  have HU1 := Lib.hid (plan_there (cm := ⟨1, m, ⟨#[]⟩⟩) hk h hm)
  have HU2 := Lib.hid (plan_there (cm := ⟨2, noMod, nm⟩) hk h (noMod_ok _))
  have HU3 := Lib.hid (plan_there (cm := ⟨3, m, ⟨#[]⟩⟩) hk h hm)
  obtain ⟨F1, hF1⟩ : ∃ F, F = planErr k ⟨1, m, ⟨#[]⟩⟩ l := ⟨_, rfl⟩
  obtain ⟨F2, hF2⟩ : ∃ F, F = planErr k ⟨2, noMod, nm⟩ l := ⟨_, rfl⟩
  obtain ⟨F3, hF3⟩ : ∃ F, F = planErr k ⟨3, m, ⟨#[]⟩⟩ l := ⟨_, rfl⟩
  have HF1 := Lib.hid hF1
  have HF2 := Lib.hid hF2
  have HF3 := Lib.hid hF3
  rw [← hF1] at HU1
  rw [← hF2] at HU2
  rw [← hF3] at HU3
  clear hk h hm hF1 hF2 hF3
  go_enter Tryz.func8, Tryz.ntmps8
  go_wp2_with fail
  refine (planBegun_any _).mono ?_; rintro e w3 ⟨rfl, hb3⟩
  have HB3 := Lib.hid (HB2.out.trans (hb3.mono HB2.out.size))
  have HT3 := Lib.hid (HT2.out.below hb3)
  have HMO3 := Lib.hid (HMO2.out.below hb3)
  have HR3 := Lib.hid (blk' hb3 HR2.out)
  have HM3 := Lib.hid (blk' hb3 HM2.out)
  clear hb3
  go_wp2_with fail
  refine (registryBegun_any _).mono ?_; rintro e w4 ⟨rfl, hb4⟩
  have HB4 := Lib.hid (HB3.out.trans (hb4.mono HB3.out.size))
  have HT4 := Lib.hid (HT3.out.below hb4)
  have HMO4 := Lib.hid (HMO3.out.below hb4)
  have HR4 := Lib.hid (blk' hb4 HR3.out)
  have HM4 := Lib.hid (blk' hb4 HM3.out)
  clear hb4
  have f1 := Lib.hid (PInstall_any k A c l m w4 HT4.out.1 HT4.out.2 HMO4.out)
  rw [← HF1.out] at f1
  obtain ⟨_, r0, r1, r2, r3, rf0, rf1, rf2, rf3⟩ := rgcells HR4.out
  obtain ⟨n0, n1, n2, n3, n4, n5, n6⟩ := box_mod HM4.out
  go_wp2_with fail
  refine (f1.out).mono ?_; rintro e w5 ⟨⟨k1, A1, l1, c1, rfl, hrg⟩, hb5⟩
  have HB5 := Lib.hid (HB4.out.trans (hb5.mono HB4.out.size))
  have HT5 := Lib.hid (HT4.out.below hb5)
  have HMO5 := Lib.hid (HMO4.out.below hb5)
  have HR5 := Lib.hid (blk' hb5 HR4.out)
  have HM5 := Lib.hid (blk' hb5 HM4.out)
  have HP5 := Lib.hid (HU1.out _ _ _ _ _ _ hrg).1
  have HS1 := Lib.hid (HU1.out _ _ _ _ _ _ hrg).2
  clear r0 r1 r2 r3 rf0 rf1 rf2 rf3
  clear hrg hb5 f1 n0 n1 n2 n3 n4 n5 n6
  obtain ⟨w6, hw6⟩ : ∃ w6, w6 = w5.alloc (.cells #[.int .i64 k1.major, .int .i64 k1.minor, .slice k1.eA k1.ex.length k1.eC, .slice A1 l1.length c1] 39) := ⟨_, rfl⟩
  have hb6 : Below w5.heap.size w5 w6 := hw6 ▸ (Below.refl _ _).alloc (Nat.le_refl _) _
  have hneRA := Lib.hid (Nat.ne_of_lt (Array.getElem?_eq_some_iff.1 HR5.out).1)
  have hneMA := Lib.hid (Nat.ne_of_lt (Array.getElem?_eq_some_iff.1 HM5.out).1)
  have HB6 := Lib.hid (HB5.out.trans (hb6.mono HB5.out.size))
  have HT6 := Lib.hid (HT5.out.below hb6)
  have HMO6 := Lib.hid (HMO5.out.below hb6)
  have HR6 := Lib.hid (blk' hb6 HR5.out)
  have HM6 := Lib.hid (blk' hb6 HM5.out)
  have HP6 := Lib.hid (HP5.out.below hb6)
  have HA6 := Lib.hid (show w6.heap[w5.heap.size]? = some (.cells #[.int .i64 k1.major, .int .i64 k1.minor, .slice k1.eA k1.ex.length k1.eC, .slice A1 l1.length c1] 39 (0, 0)) by rw [hw6]; exact heap_alloc_new w5 _)
  have HSZ6 := Lib.hid (show w6.heap.size = w5.heap.size + 1 by rw [hw6]; simp)
  have hw6' := hw6.symm
  clear hw6 hb6
  have f2 := Lib.hid (PRemove_any k A c l nm w6 HT6.out.1 HT6.out.2)
  rw [← HF2.out] at f2
  obtain ⟨_, r0, r1, r2, r3, rf0, rf1, rf2, rf3⟩ := rgcells HR6.out
  obtain ⟨n0, n1, n2, n3, n4, n5, n6⟩ := box_mod HM6.out
  go_wp2_with fail
  refine (f2.out).mono ?_; rintro e w7 ⟨⟨k2, A2, l2, c2, rfl, hrg⟩, hb7⟩
  have HB7 := Lib.hid (HB6.out.trans (hb7.mono HB6.out.size))
  have HT7 := Lib.hid (HT6.out.below hb7)
  have HMO7 := Lib.hid (HMO6.out.below hb7)
  have HR7 := Lib.hid (blk' hb7 HR6.out)
  have HM7 := Lib.hid (blk' hb7 HM6.out)
  have HP7 := Lib.hid (HP6.out.below hb7)
  have HA7 := Lib.hid (blk' hb7 HA6.out)
  have HQ7 := Lib.hid (HU2.out _ _ _ _ _ _ hrg).1
  have HS2 := Lib.hid (HU2.out _ _ _ _ _ _ hrg).2
  clear r0 r1 r2 r3 rf0 rf1 rf2 rf3
  clear hrg hb7 f2 n0 n1 n2 n3 n4 n5 n6
  obtain ⟨w8, hw8⟩ : ∃ w8, w8 = w7.alloc (.cells #[.int .i64 k2.major, .int .i64 k2.minor, .slice k2.eA k2.ex.length k2.eC, .slice A2 l2.length c2] 39) := ⟨_, rfl⟩
  have hb8 : Below w7.heap.size w7 w8 := hw8 ▸ (Below.refl _ _).alloc (Nat.le_refl _) _
  have hneRD := Lib.hid (Nat.ne_of_lt (Array.getElem?_eq_some_iff.1 HR7.out).1)
  have hneMD := Lib.hid (Nat.ne_of_lt (Array.getElem?_eq_some_iff.1 HM7.out).1)
  have hneAD := Lib.hid (Nat.ne_of_lt (Array.getElem?_eq_some_iff.1 HA7.out).1)
  have HB8 := Lib.hid (HB7.out.trans (hb8.mono HB7.out.size))
  have HT8 := Lib.hid (HT7.out.below hb8)
  have HMO8 := Lib.hid (HMO7.out.below hb8)
  have HR8 := Lib.hid (blk' hb8 HR7.out)
  have HM8 := Lib.hid (blk' hb8 HM7.out)
  have HP8 := Lib.hid (HP7.out.below hb8)
  have HA8 := Lib.hid (blk' hb8 HA7.out)
  have HQ8 := Lib.hid (HQ7.out.below hb8)
  have HD8 := Lib.hid (show w8.heap[w7.heap.size]? = some (.cells #[.int .i64 k2.major, .int .i64 k2.minor, .slice k2.eA k2.ex.length k2.eC, .slice A2 l2.length c2] 39 (0, 0)) by rw [hw8]; exact heap_alloc_new w7 _)
  have HSZ8 := Lib.hid (show w8.heap.size = w7.heap.size + 1 by rw [hw8]; simp)
  have hw8' := hw8.symm
  clear hw8 hb8
  have f3 := Lib.hid (PUpgrade_any k A c l m w8 HT8.out.1 HT8.out.2 HMO8.out)
  rw [← HF3.out] at f3
  obtain ⟨_, r0, r1, r2, r3, rf0, rf1, rf2, rf3⟩ := rgcells HR8.out
  obtain ⟨n0, n1, n2, n3, n4, n5, n6⟩ := box_mod HM8.out
  go_wp2_with fail
  refine (f3.out).mono ?_; rintro e w9 ⟨⟨k3, A3, l3, c3, rfl, hrg⟩, hb9⟩
  have HB9 := Lib.hid (HB8.out.trans (hb9.mono HB8.out.size))
  have HT9 := Lib.hid (HT8.out.below hb9)
  have HMO9 := Lib.hid (HMO8.out.below hb9)
  have HR9 := Lib.hid (blk' hb9 HR8.out)
  have HM9 := Lib.hid (blk' hb9 HM8.out)
  have HP9 := Lib.hid (HP8.out.below hb9)
  have HA9 := Lib.hid (blk' hb9 HA8.out)
  have HQ9 := Lib.hid (HQ8.out.below hb9)
  have HD9 := Lib.hid (blk' hb9 HD8.out)
  have HV9 := Lib.hid (HU3.out _ _ _ _ _ _ hrg).1
  have HS3 := Lib.hid (HU3.out _ _ _ _ _ _ hrg).2
  clear r0 r1 r2 r3 rf0 rf1 rf2 rf3
  clear hrg hb9 f3 n0 n1 n2 n3 n4 n5 n6
  obtain ⟨w10, hw10⟩ : ∃ w10, w10 = w9.alloc (.cells #[.int .i64 k3.major, .int .i64 k3.minor, .slice k3.eA k3.ex.length k3.eC, .slice A3 l3.length c3] 39) := ⟨_, rfl⟩
  have hb10 : Below w9.heap.size w9 w10 := hw10 ▸ (Below.refl _ _).alloc (Nat.le_refl _) _
  have hneRE := Lib.hid (Nat.ne_of_lt (Array.getElem?_eq_some_iff.1 HR9.out).1)
  have hneME := Lib.hid (Nat.ne_of_lt (Array.getElem?_eq_some_iff.1 HM9.out).1)
  have hneAE := Lib.hid (Nat.ne_of_lt (Array.getElem?_eq_some_iff.1 HA9.out).1)
  have hneDE := Lib.hid (Nat.ne_of_lt (Array.getElem?_eq_some_iff.1 HD9.out).1)
  have HB10 := Lib.hid (HB9.out.trans (hb10.mono HB9.out.size))
  have HT10 := Lib.hid (HT9.out.below hb10)
  have HMO10 := Lib.hid (HMO9.out.below hb10)
  have HR10 := Lib.hid (blk' hb10 HR9.out)
  have HM10 := Lib.hid (blk' hb10 HM9.out)
  have HP10 := Lib.hid (HP9.out.below hb10)
  have HA10 := Lib.hid (blk' hb10 HA9.out)
  have HQ10 := Lib.hid (HQ9.out.below hb10)
  have HD10 := Lib.hid (blk' hb10 HD9.out)
  have HV10 := Lib.hid (HV9.out.below hb10)
  have HE10 := Lib.hid (show w10.heap[w9.heap.size]? = some (.cells #[.int .i64 k3.major, .int .i64 k3.minor, .slice k3.eA k3.ex.length k3.eC, .slice A3 l3.length c3] 39 (0, 0)) by rw [hw10]; exact heap_alloc_new w9 _)
  have HSZ10 := Lib.hid (show w10.heap.size = w9.heap.size + 1 by rw [hw10]; simp)
  have hw10' := hw10.symm
  clear hw10 hb10
  by_cases t1 : F1 = 0
  · obtain ⟨q1, q2⟩ := HS1.out.1 t1
    obtain ⟨d1, d2, d3, d4, d5, d6, d7, d8⟩ := inst_facts (HF1.out.symm.trans t1) q1 q2
    have D2 := Lib.hid d2
    have D3 := Lib.hid d3
    have D4 := Lib.hid d4
    have D5 := Lib.hid d5
    have D7 := Lib.hid d7
    have D8 := Lib.hid d8
    have t1' : (F1 == 0) = true := by simp [t1]
    have t1'' : (F1 != 0) = false := by simp [t1]
    have hl8 : l.length ≤ 8 := d7
    have hlq : (l1.length : Int) = (l.length : Int) + 1 := d6
    have hle1 : ((l1.length : Int) != (l.length : Int) + 1) = false := by simp [hlq]
    have hle2 : ((l1.length : Int) == (l.length : Int) + 1) = true := by simp [hlq]
    have cC := Lib.hid (RegCheck_any k1 A1 c1 l1 w10 HP10.out.1 HP10.out.2)
    rw [d1] at cC
    clear q1 q2 d1 d2 d3 d4 d5 d6 d7 d8 hlq
    obtain ⟨_, x0, x1, x2, x3, xf0, xf1, xf2, xf3⟩ := rgcells HA10.out
    go_wp2_with fail
    refine (cC.out).mono ?_; rintro e w11 ⟨rfl, hb11⟩
    have HB11 := Lib.hid (HB10.out.trans (hb11.mono HB10.out.size))
    have HT11 := Lib.hid (HT10.out.below hb11)
    have HMO11 := Lib.hid (HMO10.out.below hb11)
    have HR11 := Lib.hid (blk' hb11 HR10.out)
    have HM11 := Lib.hid (blk' hb11 HM10.out)
    have HP11 := Lib.hid (HP10.out.below hb11)
    have HA11 := Lib.hid (blk' hb11 HA10.out)
    have HQ11 := Lib.hid (HQ10.out.below hb11)
    have HD11 := Lib.hid (blk' hb11 HD10.out)
    have HV11 := Lib.hid (HV10.out.below hb11)
    have HE11 := Lib.hid (blk' hb11 HE10.out)
    clear x0 x1 x2 x3 xf0 xf1 xf2 xf3
    clear hb11 cC
    have cO := Lib.hid (others_any k k1 A A1 c c1 l l1 m.name w11 HT11.out.2 HP11.out.2 D2.out D4.out (Nat.le_trans D7.out (by decide)))
    obtain ⟨_, x0, x1, x2, x3, xf0, xf1, xf2, xf3⟩ := rgcells HA11.out
    obtain ⟨_, r0, r1, r2, r3, rf0, rf1, rf2, rf3⟩ := rgcells HR11.out
    obtain ⟨n0, n1, n2, n3, n4, n5, n6⟩ := box_mod HM11.out
    go_wp2_with fail
    refine (cO.out).mono ?_; rintro e w12 ⟨rfl, hb12⟩
    have HB12 := Lib.hid (HB11.out.trans (hb12.mono HB11.out.size))
    have HT12 := Lib.hid (HT11.out.below hb12)
    have HMO12 := Lib.hid (HMO11.out.below hb12)
    have HR12 := Lib.hid (blk' hb12 HR11.out)
    have HM12 := Lib.hid (blk' hb12 HM11.out)
    have HP12 := Lib.hid (HP11.out.below hb12)
    have HA12 := Lib.hid (blk' hb12 HA11.out)
    have HQ12 := Lib.hid (HQ11.out.below hb12)
    have HD12 := Lib.hid (blk' hb12 HD11.out)
    have HV12 := Lib.hid (HV11.out.below hb12)
    have HE12 := Lib.hid (blk' hb12 HE11.out)
    clear x0 x1 x2 x3 xf0 xf1 xf2 xf3; clear r0 r1 r2 r3 rf0 rf1 rf2 rf3
    clear hb12 cO n0 n1 n2 n3 n4 n5 n6
    have cO := Lib.hid (others_any k1 k A1 A c1 c l1 l m.name w12 HP12.out.2 HT12.out.2 D3.out D5.out (Nat.le_trans D8.out (by decide)))
    obtain ⟨_, x0, x1, x2, x3, xf0, xf1, xf2, xf3⟩ := rgcells HA12.out
    obtain ⟨_, r0, r1, r2, r3, rf0, rf1, rf2, rf3⟩ := rgcells HR12.out
    obtain ⟨n0, n1, n2, n3, n4, n5, n6⟩ := box_mod HM12.out
    go_wp2_with fail
    refine (cO.out).mono ?_; rintro e w13 ⟨rfl, hb13⟩
    have HB13 := Lib.hid (HB12.out.trans (hb13.mono HB12.out.size))
    have HT13 := Lib.hid (HT12.out.below hb13)
    have HMO13 := Lib.hid (HMO12.out.below hb13)
    have HR13 := Lib.hid (blk' hb13 HR12.out)
    have HM13 := Lib.hid (blk' hb13 HM12.out)
    have HP13 := Lib.hid (HP12.out.below hb13)
    have HA13 := Lib.hid (blk' hb13 HA12.out)
    have HQ13 := Lib.hid (HQ12.out.below hb13)
    have HD13 := Lib.hid (blk' hb13 HD12.out)
    have HV13 := Lib.hid (HV12.out.below hb13)
    have HE13 := Lib.hid (blk' hb13 HE12.out)
    clear x0 x1 x2 x3 xf0 xf1 xf2 xf3; clear r0 r1 r2 r3 rf0 rf1 rf2 rf3
    clear hb13 cO n0 n1 n2 n3 n4 n5 n6 hle1 hle2 hl8
    by_cases t2 : F2 = 0
    · obtain ⟨q1, q2⟩ := HS2.out.1 t2
      obtain ⟨d1, d2, d3, d4, d5, d6, d7, d8⟩ := rem_facts (HF2.out.symm.trans t2) q1 q2
      have D2 := Lib.hid d2
      have D3 := Lib.hid d3
      have D4 := Lib.hid d4
      have D5 := Lib.hid d5
      have D7 := Lib.hid d7
      have D8 := Lib.hid d8
      have t2' : (F2 == 0) = true := by simp [t2]
      have t2'' : (F2 != 0) = false := by simp [t2]
      have hl8 : l.length ≤ 8 := d7
      have hlq : (l2.length : Int) = (l.length : Int) - 1 := d6
      have hle1 : ((l2.length : Int) != (l.length : Int) - 1) = false := by simp [hlq]
      have hle2 : ((l2.length : Int) == (l.length : Int) - 1) = true := by simp [hlq]
      have cC := Lib.hid (RegCheck_any k2 A2 c2 l2 w13 HQ13.out.1 HQ13.out.2)
      rw [d1] at cC
      clear q1 q2 d1 d2 d3 d4 d5 d6 d7 d8 hlq
      obtain ⟨_, x0, x1, x2, x3, xf0, xf1, xf2, xf3⟩ := rgcells HD13.out
      go_wp2_with fail
      refine (cC.out).mono ?_; rintro e w14 ⟨rfl, hb14⟩
      have HB14 := Lib.hid (HB13.out.trans (hb14.mono HB13.out.size))
      have HT14 := Lib.hid (HT13.out.below hb14)
      have HMO14 := Lib.hid (HMO13.out.below hb14)
      have HR14 := Lib.hid (blk' hb14 HR13.out)
      have HM14 := Lib.hid (blk' hb14 HM13.out)
      have HP14 := Lib.hid (HP13.out.below hb14)
      have HA14 := Lib.hid (blk' hb14 HA13.out)
      have HQ14 := Lib.hid (HQ13.out.below hb14)
      have HD14 := Lib.hid (blk' hb14 HD13.out)
      have HV14 := Lib.hid (HV13.out.below hb14)
      have HE14 := Lib.hid (blk' hb14 HE13.out)
      clear x0 x1 x2 x3 xf0 xf1 xf2 xf3
      clear hb14 cC
      have cO := Lib.hid (others_any k k2 A A2 c c2 l l2 nm w14 HT14.out.2 HQ14.out.2 D2.out D4.out (Nat.le_trans D7.out (by decide)))
      obtain ⟨_, x0, x1, x2, x3, xf0, xf1, xf2, xf3⟩ := rgcells HD14.out
      obtain ⟨_, r0, r1, r2, r3, rf0, rf1, rf2, rf3⟩ := rgcells HR14.out
      obtain ⟨n0, n1, n2, n3, n4, n5, n6⟩ := box_mod HM14.out
      go_wp2_with fail
      refine (cO.out).mono ?_; rintro e w15 ⟨rfl, hb15⟩
      have HB15 := Lib.hid (HB14.out.trans (hb15.mono HB14.out.size))
      have HT15 := Lib.hid (HT14.out.below hb15)
      have HMO15 := Lib.hid (HMO14.out.below hb15)
      have HR15 := Lib.hid (blk' hb15 HR14.out)
      have HM15 := Lib.hid (blk' hb15 HM14.out)
      have HP15 := Lib.hid (HP14.out.below hb15)
      have HA15 := Lib.hid (blk' hb15 HA14.out)
      have HQ15 := Lib.hid (HQ14.out.below hb15)
      have HD15 := Lib.hid (blk' hb15 HD14.out)
      have HV15 := Lib.hid (HV14.out.below hb15)
      have HE15 := Lib.hid (blk' hb15 HE14.out)
      clear x0 x1 x2 x3 xf0 xf1 xf2 xf3; clear r0 r1 r2 r3 rf0 rf1 rf2 rf3
      clear hb15 cO n0 n1 n2 n3 n4 n5 n6
      have cO := Lib.hid (others_any k2 k A2 A c2 c l2 l nm w15 HQ15.out.2 HT15.out.2 D3.out D5.out (Nat.le_trans D8.out (by decide)))
      obtain ⟨_, x0, x1, x2, x3, xf0, xf1, xf2, xf3⟩ := rgcells HD15.out
      obtain ⟨_, r0, r1, r2, r3, rf0, rf1, rf2, rf3⟩ := rgcells HR15.out
      obtain ⟨n0, n1, n2, n3, n4, n5, n6⟩ := box_mod HM15.out
      go_wp2_with fail
      refine (cO.out).mono ?_; rintro e w16 ⟨rfl, hb16⟩
      have HB16 := Lib.hid (HB15.out.trans (hb16.mono HB15.out.size))
      have HT16 := Lib.hid (HT15.out.below hb16)
      have HMO16 := Lib.hid (HMO15.out.below hb16)
      have HR16 := Lib.hid (blk' hb16 HR15.out)
      have HM16 := Lib.hid (blk' hb16 HM15.out)
      have HP16 := Lib.hid (HP15.out.below hb16)
      have HA16 := Lib.hid (blk' hb16 HA15.out)
      have HQ16 := Lib.hid (HQ15.out.below hb16)
      have HD16 := Lib.hid (blk' hb16 HD15.out)
      have HV16 := Lib.hid (HV15.out.below hb16)
      have HE16 := Lib.hid (blk' hb16 HE15.out)
      clear x0 x1 x2 x3 xf0 xf1 xf2 xf3; clear r0 r1 r2 r3 rf0 rf1 rf2 rf3
      clear hb16 cO n0 n1 n2 n3 n4 n5 n6 hle1 hle2 hl8
      by_cases t3 : F3 = 0
      · obtain ⟨q1, q2⟩ := HS3.out.1 t3
        obtain ⟨d1, d2, d3, d4, d5, d6, d7, d8⟩ := upg_facts (HF3.out.symm.trans t3) q1 q2
        have D2 := Lib.hid d2
        have D3 := Lib.hid d3
        have D4 := Lib.hid d4
        have D5 := Lib.hid d5
        have D7 := Lib.hid d7
        have D8 := Lib.hid d8
        have t3' : (F3 == 0) = true := by simp [t3]
        have t3'' : (F3 != 0) = false := by simp [t3]
        have hl8 : l.length ≤ 8 := d7
        have hlq : (l3.length : Int) = (l.length : Int) := d6
        have hle1 : ((l3.length : Int) != (l.length : Int)) = false := by simp [hlq]
        have hle2 : ((l3.length : Int) == (l.length : Int)) = true := by simp [hlq]
        have cC := Lib.hid (RegCheck_any k3 A3 c3 l3 w16 HV16.out.1 HV16.out.2)
        rw [d1] at cC
        clear q1 q2 d1 d2 d3 d4 d5 d6 d7 d8 hlq
        obtain ⟨_, x0, x1, x2, x3, xf0, xf1, xf2, xf3⟩ := rgcells HE16.out
        go_wp2_with fail
        refine (cC.out).mono ?_; rintro e w17 ⟨rfl, hb17⟩
        have HB17 := Lib.hid (HB16.out.trans (hb17.mono HB16.out.size))
        have HT17 := Lib.hid (HT16.out.below hb17)
        have HMO17 := Lib.hid (HMO16.out.below hb17)
        have HR17 := Lib.hid (blk' hb17 HR16.out)
        have HM17 := Lib.hid (blk' hb17 HM16.out)
        have HP17 := Lib.hid (HP16.out.below hb17)
        have HA17 := Lib.hid (blk' hb17 HA16.out)
        have HQ17 := Lib.hid (HQ16.out.below hb17)
        have HD17 := Lib.hid (blk' hb17 HD16.out)
        have HV17 := Lib.hid (HV16.out.below hb17)
        have HE17 := Lib.hid (blk' hb17 HE16.out)
        clear x0 x1 x2 x3 xf0 xf1 xf2 xf3
        clear hb17 cC
        have cO := Lib.hid (others_any k k3 A A3 c c3 l l3 m.name w17 HT17.out.2 HV17.out.2 D2.out D4.out (Nat.le_trans D7.out (by decide)))
        obtain ⟨_, x0, x1, x2, x3, xf0, xf1, xf2, xf3⟩ := rgcells HE17.out
        obtain ⟨_, r0, r1, r2, r3, rf0, rf1, rf2, rf3⟩ := rgcells HR17.out
        obtain ⟨n0, n1, n2, n3, n4, n5, n6⟩ := box_mod HM17.out
        go_wp2_with fail
        refine (cO.out).mono ?_; rintro e w18 ⟨rfl, hb18⟩
        have HB18 := Lib.hid (HB17.out.trans (hb18.mono HB17.out.size))
        have HT18 := Lib.hid (HT17.out.below hb18)
        have HMO18 := Lib.hid (HMO17.out.below hb18)
        have HR18 := Lib.hid (blk' hb18 HR17.out)
        have HM18 := Lib.hid (blk' hb18 HM17.out)
        have HP18 := Lib.hid (HP17.out.below hb18)
        have HA18 := Lib.hid (blk' hb18 HA17.out)
        have HQ18 := Lib.hid (HQ17.out.below hb18)
        have HD18 := Lib.hid (blk' hb18 HD17.out)
        have HV18 := Lib.hid (HV17.out.below hb18)
        have HE18 := Lib.hid (blk' hb18 HE17.out)
        clear x0 x1 x2 x3 xf0 xf1 xf2 xf3; clear r0 r1 r2 r3 rf0 rf1 rf2 rf3
        clear hb18 cO n0 n1 n2 n3 n4 n5 n6
        have cO := Lib.hid (others_any k3 k A3 A c3 c l3 l m.name w18 HV18.out.2 HT18.out.2 D3.out D5.out (Nat.le_trans D8.out (by decide)))
        obtain ⟨_, x0, x1, x2, x3, xf0, xf1, xf2, xf3⟩ := rgcells HE18.out
        obtain ⟨_, r0, r1, r2, r3, rf0, rf1, rf2, rf3⟩ := rgcells HR18.out
        obtain ⟨n0, n1, n2, n3, n4, n5, n6⟩ := box_mod HM18.out
        go_wp2_with fail
        refine (cO.out).mono ?_; rintro e w19 ⟨rfl, hb19⟩
        have HB19 := Lib.hid (HB18.out.trans (hb19.mono HB18.out.size))
        have HT19 := Lib.hid (HT18.out.below hb19)
        have HMO19 := Lib.hid (HMO18.out.below hb19)
        have HR19 := Lib.hid (blk' hb19 HR18.out)
        have HM19 := Lib.hid (blk' hb19 HM18.out)
        have HP19 := Lib.hid (HP18.out.below hb19)
        have HA19 := Lib.hid (blk' hb19 HA18.out)
        have HQ19 := Lib.hid (HQ18.out.below hb19)
        have HD19 := Lib.hid (blk' hb19 HD18.out)
        have HV19 := Lib.hid (HV18.out.below hb19)
        have HE19 := Lib.hid (blk' hb19 HE18.out)
        clear x0 x1 x2 x3 xf0 xf1 xf2 xf3; clear r0 r1 r2 r3 rf0 rf1 rf2 rf3
        clear hb19 cO n0 n1 n2 n3 n4 n5 n6 hle1 hle2 hl8
        go_wp2_with fail
        go_ret
        exact ⟨by simp, HB19.out⟩

      · have t3' : (F3 == 0) = false := by simp [t3]
        have t3'' : (F3 != 0) = true := by simp [t3]
        go_wp2_with fail
        go_ret
        exact ⟨by simp, HB16.out⟩


    · have t2' : (F2 == 0) = false := by simp [t2]
      have t2'' : (F2 != 0) = true := by simp [t2]
      by_cases t3 : F3 = 0
      · obtain ⟨q1, q2⟩ := HS3.out.1 t3
        obtain ⟨d1, d2, d3, d4, d5, d6, d7, d8⟩ := upg_facts (HF3.out.symm.trans t3) q1 q2
        have D2 := Lib.hid d2
        have D3 := Lib.hid d3
        have D4 := Lib.hid d4
        have D5 := Lib.hid d5
        have D7 := Lib.hid d7
        have D8 := Lib.hid d8
        have t3' : (F3 == 0) = true := by simp [t3]
        have t3'' : (F3 != 0) = false := by simp [t3]
        have hl8 : l.length ≤ 8 := d7
        have hlq : (l3.length : Int) = (l.length : Int) := d6
        have hle1 : ((l3.length : Int) != (l.length : Int)) = false := by simp [hlq]
        have hle2 : ((l3.length : Int) == (l.length : Int)) = true := by simp [hlq]
        have cC := Lib.hid (RegCheck_any k3 A3 c3 l3 w13 HV13.out.1 HV13.out.2)
        rw [d1] at cC
        clear q1 q2 d1 d2 d3 d4 d5 d6 d7 d8 hlq
        obtain ⟨_, x0, x1, x2, x3, xf0, xf1, xf2, xf3⟩ := rgcells HE13.out
        go_wp2_with fail
        refine (cC.out).mono ?_; rintro e w20 ⟨rfl, hb20⟩
        have HB20 := Lib.hid (HB13.out.trans (hb20.mono HB13.out.size))
        have HT20 := Lib.hid (HT13.out.below hb20)
        have HMO20 := Lib.hid (HMO13.out.below hb20)
        have HR20 := Lib.hid (blk' hb20 HR13.out)
        have HM20 := Lib.hid (blk' hb20 HM13.out)
        have HP20 := Lib.hid (HP13.out.below hb20)
        have HA20 := Lib.hid (blk' hb20 HA13.out)
        have HQ20 := Lib.hid (HQ13.out.below hb20)
        have HD20 := Lib.hid (blk' hb20 HD13.out)
        have HV20 := Lib.hid (HV13.out.below hb20)
        have HE20 := Lib.hid (blk' hb20 HE13.out)
        clear x0 x1 x2 x3 xf0 xf1 xf2 xf3
        clear hb20 cC
        have cO := Lib.hid (others_any k k3 A A3 c c3 l l3 m.name w20 HT20.out.2 HV20.out.2 D2.out D4.out (Nat.le_trans D7.out (by decide)))
        obtain ⟨_, x0, x1, x2, x3, xf0, xf1, xf2, xf3⟩ := rgcells HE20.out
        obtain ⟨_, r0, r1, r2, r3, rf0, rf1, rf2, rf3⟩ := rgcells HR20.out
        obtain ⟨n0, n1, n2, n3, n4, n5, n6⟩ := box_mod HM20.out
        go_wp2_with fail
        refine (cO.out).mono ?_; rintro e w21 ⟨rfl, hb21⟩
        have HB21 := Lib.hid (HB20.out.trans (hb21.mono HB20.out.size))
        have HT21 := Lib.hid (HT20.out.below hb21)
        have HMO21 := Lib.hid (HMO20.out.below hb21)
        have HR21 := Lib.hid (blk' hb21 HR20.out)
        have HM21 := Lib.hid (blk' hb21 HM20.out)
        have HP21 := Lib.hid (HP20.out.below hb21)
        have HA21 := Lib.hid (blk' hb21 HA20.out)
        have HQ21 := Lib.hid (HQ20.out.below hb21)
        have HD21 := Lib.hid (blk' hb21 HD20.out)
        have HV21 := Lib.hid (HV20.out.below hb21)
        have HE21 := Lib.hid (blk' hb21 HE20.out)
        clear x0 x1 x2 x3 xf0 xf1 xf2 xf3; clear r0 r1 r2 r3 rf0 rf1 rf2 rf3
        clear hb21 cO n0 n1 n2 n3 n4 n5 n6
        have cO := Lib.hid (others_any k3 k A3 A c3 c l3 l m.name w21 HV21.out.2 HT21.out.2 D3.out D5.out (Nat.le_trans D8.out (by decide)))
        obtain ⟨_, x0, x1, x2, x3, xf0, xf1, xf2, xf3⟩ := rgcells HE21.out
        obtain ⟨_, r0, r1, r2, r3, rf0, rf1, rf2, rf3⟩ := rgcells HR21.out
        obtain ⟨n0, n1, n2, n3, n4, n5, n6⟩ := box_mod HM21.out
        go_wp2_with fail
        refine (cO.out).mono ?_; rintro e w22 ⟨rfl, hb22⟩
        have HB22 := Lib.hid (HB21.out.trans (hb22.mono HB21.out.size))
        have HT22 := Lib.hid (HT21.out.below hb22)
        have HMO22 := Lib.hid (HMO21.out.below hb22)
        have HR22 := Lib.hid (blk' hb22 HR21.out)
        have HM22 := Lib.hid (blk' hb22 HM21.out)
        have HP22 := Lib.hid (HP21.out.below hb22)
        have HA22 := Lib.hid (blk' hb22 HA21.out)
        have HQ22 := Lib.hid (HQ21.out.below hb22)
        have HD22 := Lib.hid (blk' hb22 HD21.out)
        have HV22 := Lib.hid (HV21.out.below hb22)
        have HE22 := Lib.hid (blk' hb22 HE21.out)
        clear x0 x1 x2 x3 xf0 xf1 xf2 xf3; clear r0 r1 r2 r3 rf0 rf1 rf2 rf3
        clear hb22 cO n0 n1 n2 n3 n4 n5 n6 hle1 hle2 hl8
        go_wp2_with fail
        go_ret
        exact ⟨by simp, HB22.out⟩

      · have t3' : (F3 == 0) = false := by simp [t3]
        have t3'' : (F3 != 0) = true := by simp [t3]
        go_wp2_with fail
        go_ret
        exact ⟨by simp, HB13.out⟩



  · have t1' : (F1 == 0) = false := by simp [t1]
    have t1'' : (F1 != 0) = true := by simp [t1]
    by_cases t2 : F2 = 0
    · obtain ⟨q1, q2⟩ := HS2.out.1 t2
      obtain ⟨d1, d2, d3, d4, d5, d6, d7, d8⟩ := rem_facts (HF2.out.symm.trans t2) q1 q2
      have D2 := Lib.hid d2
      have D3 := Lib.hid d3
      have D4 := Lib.hid d4
      have D5 := Lib.hid d5
      have D7 := Lib.hid d7
      have D8 := Lib.hid d8
      have t2' : (F2 == 0) = true := by simp [t2]
      have t2'' : (F2 != 0) = false := by simp [t2]
      have hl8 : l.length ≤ 8 := d7
      have hlq : (l2.length : Int) = (l.length : Int) - 1 := d6
      have hle1 : ((l2.length : Int) != (l.length : Int) - 1) = false := by simp [hlq]
      have hle2 : ((l2.length : Int) == (l.length : Int) - 1) = true := by simp [hlq]
      have cC := Lib.hid (RegCheck_any k2 A2 c2 l2 w10 HQ10.out.1 HQ10.out.2)
      rw [d1] at cC
      clear q1 q2 d1 d2 d3 d4 d5 d6 d7 d8 hlq
      obtain ⟨_, x0, x1, x2, x3, xf0, xf1, xf2, xf3⟩ := rgcells HD10.out
      go_wp2_with fail
      refine (cC.out).mono ?_; rintro e w23 ⟨rfl, hb23⟩
      have HB23 := Lib.hid (HB10.out.trans (hb23.mono HB10.out.size))
      have HT23 := Lib.hid (HT10.out.below hb23)
      have HMO23 := Lib.hid (HMO10.out.below hb23)
      have HR23 := Lib.hid (blk' hb23 HR10.out)
      have HM23 := Lib.hid (blk' hb23 HM10.out)
      have HP23 := Lib.hid (HP10.out.below hb23)
      have HA23 := Lib.hid (blk' hb23 HA10.out)
      have HQ23 := Lib.hid (HQ10.out.below hb23)
      have HD23 := Lib.hid (blk' hb23 HD10.out)
      have HV23 := Lib.hid (HV10.out.below hb23)
      have HE23 := Lib.hid (blk' hb23 HE10.out)
      clear x0 x1 x2 x3 xf0 xf1 xf2 xf3
      clear hb23 cC
      have cO := Lib.hid (others_any k k2 A A2 c c2 l l2 nm w23 HT23.out.2 HQ23.out.2 D2.out D4.out (Nat.le_trans D7.out (by decide)))
      obtain ⟨_, x0, x1, x2, x3, xf0, xf1, xf2, xf3⟩ := rgcells HD23.out
      obtain ⟨_, r0, r1, r2, r3, rf0, rf1, rf2, rf3⟩ := rgcells HR23.out
      obtain ⟨n0, n1, n2, n3, n4, n5, n6⟩ := box_mod HM23.out
      go_wp2_with fail
      refine (cO.out).mono ?_; rintro e w24 ⟨rfl, hb24⟩
      have HB24 := Lib.hid (HB23.out.trans (hb24.mono HB23.out.size))
      have HT24 := Lib.hid (HT23.out.below hb24)
      have HMO24 := Lib.hid (HMO23.out.below hb24)
      have HR24 := Lib.hid (blk' hb24 HR23.out)
      have HM24 := Lib.hid (blk' hb24 HM23.out)
      have HP24 := Lib.hid (HP23.out.below hb24)
      have HA24 := Lib.hid (blk' hb24 HA23.out)
      have HQ24 := Lib.hid (HQ23.out.below hb24)
      have HD24 := Lib.hid (blk' hb24 HD23.out)
      have HV24 := Lib.hid (HV23.out.below hb24)
      have HE24 := Lib.hid (blk' hb24 HE23.out)
      clear x0 x1 x2 x3 xf0 xf1 xf2 xf3; clear r0 r1 r2 r3 rf0 rf1 rf2 rf3
      clear hb24 cO n0 n1 n2 n3 n4 n5 n6
      have cO := Lib.hid (others_any k2 k A2 A c2 c l2 l nm w24 HQ24.out.2 HT24.out.2 D3.out D5.out (Nat.le_trans D8.out (by decide)))
      obtain ⟨_, x0, x1, x2, x3, xf0, xf1, xf2, xf3⟩ := rgcells HD24.out
      obtain ⟨_, r0, r1, r2, r3, rf0, rf1, rf2, rf3⟩ := rgcells HR24.out
      obtain ⟨n0, n1, n2, n3, n4, n5, n6⟩ := box_mod HM24.out
      go_wp2_with fail
      refine (cO.out).mono ?_; rintro e w25 ⟨rfl, hb25⟩
      have HB25 := Lib.hid (HB24.out.trans (hb25.mono HB24.out.size))
      have HT25 := Lib.hid (HT24.out.below hb25)
      have HMO25 := Lib.hid (HMO24.out.below hb25)
      have HR25 := Lib.hid (blk' hb25 HR24.out)
      have HM25 := Lib.hid (blk' hb25 HM24.out)
      have HP25 := Lib.hid (HP24.out.below hb25)
      have HA25 := Lib.hid (blk' hb25 HA24.out)
      have HQ25 := Lib.hid (HQ24.out.below hb25)
      have HD25 := Lib.hid (blk' hb25 HD24.out)
      have HV25 := Lib.hid (HV24.out.below hb25)
      have HE25 := Lib.hid (blk' hb25 HE24.out)
      clear x0 x1 x2 x3 xf0 xf1 xf2 xf3; clear r0 r1 r2 r3 rf0 rf1 rf2 rf3
      clear hb25 cO n0 n1 n2 n3 n4 n5 n6 hle1 hle2 hl8
      by_cases t3 : F3 = 0
      · obtain ⟨q1, q2⟩ := HS3.out.1 t3
        obtain ⟨d1, d2, d3, d4, d5, d6, d7, d8⟩ := upg_facts (HF3.out.symm.trans t3) q1 q2
        have D2 := Lib.hid d2
        have D3 := Lib.hid d3
        have D4 := Lib.hid d4
        have D5 := Lib.hid d5
        have D7 := Lib.hid d7
        have D8 := Lib.hid d8
        have t3' : (F3 == 0) = true := by simp [t3]
        have t3'' : (F3 != 0) = false := by simp [t3]
        have hl8 : l.length ≤ 8 := d7
        have hlq : (l3.length : Int) = (l.length : Int) := d6
        have hle1 : ((l3.length : Int) != (l.length : Int)) = false := by simp [hlq]
        have hle2 : ((l3.length : Int) == (l.length : Int)) = true := by simp [hlq]
        have cC := Lib.hid (RegCheck_any k3 A3 c3 l3 w25 HV25.out.1 HV25.out.2)
        rw [d1] at cC
        clear q1 q2 d1 d2 d3 d4 d5 d6 d7 d8 hlq
        obtain ⟨_, x0, x1, x2, x3, xf0, xf1, xf2, xf3⟩ := rgcells HE25.out
        go_wp2_with fail
        refine (cC.out).mono ?_; rintro e w26 ⟨rfl, hb26⟩
        have HB26 := Lib.hid (HB25.out.trans (hb26.mono HB25.out.size))
        have HT26 := Lib.hid (HT25.out.below hb26)
        have HMO26 := Lib.hid (HMO25.out.below hb26)
        have HR26 := Lib.hid (blk' hb26 HR25.out)
        have HM26 := Lib.hid (blk' hb26 HM25.out)
        have HP26 := Lib.hid (HP25.out.below hb26)
        have HA26 := Lib.hid (blk' hb26 HA25.out)
        have HQ26 := Lib.hid (HQ25.out.below hb26)
        have HD26 := Lib.hid (blk' hb26 HD25.out)
        have HV26 := Lib.hid (HV25.out.below hb26)
        have HE26 := Lib.hid (blk' hb26 HE25.out)
        clear x0 x1 x2 x3 xf0 xf1 xf2 xf3
        clear hb26 cC
        have cO := Lib.hid (others_any k k3 A A3 c c3 l l3 m.name w26 HT26.out.2 HV26.out.2 D2.out D4.out (Nat.le_trans D7.out (by decide)))
        obtain ⟨_, x0, x1, x2, x3, xf0, xf1, xf2, xf3⟩ := rgcells HE26.out
        obtain ⟨_, r0, r1, r2, r3, rf0, rf1, rf2, rf3⟩ := rgcells HR26.out
        obtain ⟨n0, n1, n2, n3, n4, n5, n6⟩ := box_mod HM26.out
        go_wp2_with fail
        refine (cO.out).mono ?_; rintro e w27 ⟨rfl, hb27⟩
        have HB27 := Lib.hid (HB26.out.trans (hb27.mono HB26.out.size))
        have HT27 := Lib.hid (HT26.out.below hb27)
        have HMO27 := Lib.hid (HMO26.out.below hb27)
        have HR27 := Lib.hid (blk' hb27 HR26.out)
        have HM27 := Lib.hid (blk' hb27 HM26.out)
        have HP27 := Lib.hid (HP26.out.below hb27)
        have HA27 := Lib.hid (blk' hb27 HA26.out)
        have HQ27 := Lib.hid (HQ26.out.below hb27)
        have HD27 := Lib.hid (blk' hb27 HD26.out)
        have HV27 := Lib.hid (HV26.out.below hb27)
        have HE27 := Lib.hid (blk' hb27 HE26.out)
        clear x0 x1 x2 x3 xf0 xf1 xf2 xf3; clear r0 r1 r2 r3 rf0 rf1 rf2 rf3
        clear hb27 cO n0 n1 n2 n3 n4 n5 n6
        have cO := Lib.hid (others_any k3 k A3 A c3 c l3 l m.name w27 HV27.out.2 HT27.out.2 D3.out D5.out (Nat.le_trans D8.out (by decide)))
        obtain ⟨_, x0, x1, x2, x3, xf0, xf1, xf2, xf3⟩ := rgcells HE27.out
        obtain ⟨_, r0, r1, r2, r3, rf0, rf1, rf2, rf3⟩ := rgcells HR27.out
        obtain ⟨n0, n1, n2, n3, n4, n5, n6⟩ := box_mod HM27.out
        go_wp2_with fail
        refine (cO.out).mono ?_; rintro e w28 ⟨rfl, hb28⟩
        have HB28 := Lib.hid (HB27.out.trans (hb28.mono HB27.out.size))
        have HT28 := Lib.hid (HT27.out.below hb28)
        have HMO28 := Lib.hid (HMO27.out.below hb28)
        have HR28 := Lib.hid (blk' hb28 HR27.out)
        have HM28 := Lib.hid (blk' hb28 HM27.out)
        have HP28 := Lib.hid (HP27.out.below hb28)
        have HA28 := Lib.hid (blk' hb28 HA27.out)
        have HQ28 := Lib.hid (HQ27.out.below hb28)
        have HD28 := Lib.hid (blk' hb28 HD27.out)
        have HV28 := Lib.hid (HV27.out.below hb28)
        have HE28 := Lib.hid (blk' hb28 HE27.out)
        clear x0 x1 x2 x3 xf0 xf1 xf2 xf3; clear r0 r1 r2 r3 rf0 rf1 rf2 rf3
        clear hb28 cO n0 n1 n2 n3 n4 n5 n6 hle1 hle2 hl8
        go_wp2_with fail
        go_ret
        exact ⟨by simp, HB28.out⟩

      · have t3' : (F3 == 0) = false := by simp [t3]
        have t3'' : (F3 != 0) = true := by simp [t3]
        go_wp2_with fail
        go_ret
        exact ⟨by simp, HB25.out⟩


    · have t2' : (F2 == 0) = false := by simp [t2]
      have t2'' : (F2 != 0) = true := by simp [t2]
      by_cases t3 : F3 = 0
      · obtain ⟨q1, q2⟩ := HS3.out.1 t3
        obtain ⟨d1, d2, d3, d4, d5, d6, d7, d8⟩ := upg_facts (HF3.out.symm.trans t3) q1 q2
        have D2 := Lib.hid d2
        have D3 := Lib.hid d3
        have D4 := Lib.hid d4
        have D5 := Lib.hid d5
        have D7 := Lib.hid d7
        have D8 := Lib.hid d8
        have t3' : (F3 == 0) = true := by simp [t3]
        have t3'' : (F3 != 0) = false := by simp [t3]
        have hl8 : l.length ≤ 8 := d7
        have hlq : (l3.length : Int) = (l.length : Int) := d6
        have hle1 : ((l3.length : Int) != (l.length : Int)) = false := by simp [hlq]
        have hle2 : ((l3.length : Int) == (l.length : Int)) = true := by simp [hlq]
        have cC := Lib.hid (RegCheck_any k3 A3 c3 l3 w10 HV10.out.1 HV10.out.2)
        rw [d1] at cC
        clear q1 q2 d1 d2 d3 d4 d5 d6 d7 d8 hlq
        obtain ⟨_, x0, x1, x2, x3, xf0, xf1, xf2, xf3⟩ := rgcells HE10.out
        go_wp2_with fail
        refine (cC.out).mono ?_; rintro e w29 ⟨rfl, hb29⟩
        have HB29 := Lib.hid (HB10.out.trans (hb29.mono HB10.out.size))
        have HT29 := Lib.hid (HT10.out.below hb29)
        have HMO29 := Lib.hid (HMO10.out.below hb29)
        have HR29 := Lib.hid (blk' hb29 HR10.out)
        have HM29 := Lib.hid (blk' hb29 HM10.out)
        have HP29 := Lib.hid (HP10.out.below hb29)
        have HA29 := Lib.hid (blk' hb29 HA10.out)
        have HQ29 := Lib.hid (HQ10.out.below hb29)
        have HD29 := Lib.hid (blk' hb29 HD10.out)
        have HV29 := Lib.hid (HV10.out.below hb29)
        have HE29 := Lib.hid (blk' hb29 HE10.out)
        clear x0 x1 x2 x3 xf0 xf1 xf2 xf3
        clear hb29 cC
        have cO := Lib.hid (others_any k k3 A A3 c c3 l l3 m.name w29 HT29.out.2 HV29.out.2 D2.out D4.out (Nat.le_trans D7.out (by decide)))
        obtain ⟨_, x0, x1, x2, x3, xf0, xf1, xf2, xf3⟩ := rgcells HE29.out
        obtain ⟨_, r0, r1, r2, r3, rf0, rf1, rf2, rf3⟩ := rgcells HR29.out
        obtain ⟨n0, n1, n2, n3, n4, n5, n6⟩ := box_mod HM29.out
        go_wp2_with fail
        refine (cO.out).mono ?_; rintro e w30 ⟨rfl, hb30⟩
        have HB30 := Lib.hid (HB29.out.trans (hb30.mono HB29.out.size))
        have HT30 := Lib.hid (HT29.out.below hb30)
        have HMO30 := Lib.hid (HMO29.out.below hb30)
        have HR30 := Lib.hid (blk' hb30 HR29.out)
        have HM30 := Lib.hid (blk' hb30 HM29.out)
        have HP30 := Lib.hid (HP29.out.below hb30)
        have HA30 := Lib.hid (blk' hb30 HA29.out)
        have HQ30 := Lib.hid (HQ29.out.below hb30)
        have HD30 := Lib.hid (blk' hb30 HD29.out)
        have HV30 := Lib.hid (HV29.out.below hb30)
        have HE30 := Lib.hid (blk' hb30 HE29.out)
        clear x0 x1 x2 x3 xf0 xf1 xf2 xf3; clear r0 r1 r2 r3 rf0 rf1 rf2 rf3
        clear hb30 cO n0 n1 n2 n3 n4 n5 n6
        have cO := Lib.hid (others_any k3 k A3 A c3 c l3 l m.name w30 HV30.out.2 HT30.out.2 D3.out D5.out (Nat.le_trans D8.out (by decide)))
        obtain ⟨_, x0, x1, x2, x3, xf0, xf1, xf2, xf3⟩ := rgcells HE30.out
        obtain ⟨_, r0, r1, r2, r3, rf0, rf1, rf2, rf3⟩ := rgcells HR30.out
        obtain ⟨n0, n1, n2, n3, n4, n5, n6⟩ := box_mod HM30.out
        go_wp2_with fail
        refine (cO.out).mono ?_; rintro e w31 ⟨rfl, hb31⟩
        have HB31 := Lib.hid (HB30.out.trans (hb31.mono HB30.out.size))
        have HT31 := Lib.hid (HT30.out.below hb31)
        have HMO31 := Lib.hid (HMO30.out.below hb31)
        have HR31 := Lib.hid (blk' hb31 HR30.out)
        have HM31 := Lib.hid (blk' hb31 HM30.out)
        have HP31 := Lib.hid (HP30.out.below hb31)
        have HA31 := Lib.hid (blk' hb31 HA30.out)
        have HQ31 := Lib.hid (HQ30.out.below hb31)
        have HD31 := Lib.hid (blk' hb31 HD30.out)
        have HV31 := Lib.hid (HV30.out.below hb31)
        have HE31 := Lib.hid (blk' hb31 HE30.out)
        clear x0 x1 x2 x3 xf0 xf1 xf2 xf3; clear r0 r1 r2 r3 rf0 rf1 rf2 rf3
        clear hb31 cO n0 n1 n2 n3 n4 n5 n6 hle1 hle2 hl8
        go_wp2_with fail
        go_ret
        exact ⟨by simp, HB31.out⟩

      · have t3' : (F3 == 0) = false := by simp [t3]
        have t3'' : (F3 != 0) = true := by simp [t3]
        go_wp2_with fail
        go_ret
        exact ⟨by simp, HB10.out⟩




set_option maxHeartbeats 0 in
theorem planOthers_closed : joinedFacts Tryz.prog 8 Tryz.f8 Rows.planOthersSpec Rows.planOthersRow = true := by
  unfold joinedFacts
  simp only [Bool.and_eq_true]
  and_intros
  · as_aux_lemma => kernel_rfl
  · exact Tryz.laidOut
  · exact Tryz.k_mapsRowed
  · as_aux_lemma => kernel_rfl
  · as_aux_lemma => kernel_rfl
  · as_aux_lemma => kernel_rfl
  · exact Tryz.k_stops
  · as_aux_lemma => kernel_rfl
  · exact Tryz.k_stopKnobs
  · as_aux_lemma => kernel_rfl
  · as_aux_lemma => kernel_rfl
  · as_aux_lemma => kernel_rfl
  · as_aux_lemma => kernel_rfl
  · as_aux_lemma => kernel_rfl
  · as_aux_lemma => kernel_rfl
  · as_aux_lemma => kernel_rfl
  · as_aux_lemma => kernel_rfl
  · as_aux_lemma => kernel_rfl
  · as_aux_lemma => kernel_rfl
  · as_aux_lemma => kernel_rfl
  · as_aux_lemma => kernel_rfl
  · as_aux_lemma => kernel_rfl
  · exact Tryz.k_plainKeys
  · as_aux_lemma => kernel_rfl
  · exact Tryz.k_stopsHeard
  · exact Tryz.k_mayEnter
  · exact Tryz.k_lifts
  · exact Tryz.k_make
  · as_aux_lemma => kernel_rfl
  · as_aux_lemma => kernel_rfl
  · as_aux_lemma => kernel_rfl
  · as_aux_lemma => kernel_rfl

set_option maxRecDepth 100000 in
theorem planOthers_lifted (os : Os) (started : os.Started) (H : Type) (enc : TypeId × Value → H) :
    ReturnsInHanded {} Tryz.checked os 8 .any (Rows.planOthersSpec.pre6 enc Tryz.prog Tryz.f8 Rows.planOthersRow.domain false) (Rows.planOthersSpec.post enc Tryz.prog Tryz.f8 false true false false) := by
  refine returnsInHanded_of_change_sized (C := Tryz.checked) Tryz.own started (by kernel_rfl) Tryz.func8
    (ChangeSpec.witness6 (enc := enc) (C := Tryz.checked) false ⟨#[], #[.agg #[.int .i64 0, .int .i64 0, .slice none 0 0, .slice none 0 0], .agg #[.string ⟨#[]⟩, .int .i64 0, .int .i64 0, .string ⟨#[]⟩, .slice none 0 0, .slice none 0 0, .slice none 0 0], .string ⟨#[]⟩], []⟩ 8 (by kernel_rfl) (by kernel_rfl) (by kernel_rfl) (by kernel_rfl)) ?_
  intro W base args ds gs before hval0 hW hcnd hsz0 _
  have hval : ∀ (j : Nat) t v, Tryz.f8.params[j]? = some t → args[j]? = some v → Value.okWide Tryz.prog W .any base t v := hval0
  have hsz : (DataW.weightsEach Tryz.prog (Tryz.f8.params.toList ++ Rows.planOthersSpec.plain.varTypes Tryz.prog) (ds ++ gs)).all (· ≤ reachBytes) = true := hsz0
  have hW' := hW
  obtain ⟨p, q, hA0, hV, rfl, hfz, hnd⟩ := hW
  have hA : DataW.TrodAll enc Tryz.prog W 0 (fun _ => true) true Tryz.f8.params.toList args.toList ds p := hA0
  rw [Tryz.params8] at hA hval hsz
  obtain ⟨v0, vs0, d0, ds0, p0, q0, hargs, rfl, rfl, h0, r0⟩ := trodAll_cons hA
  obtain ⟨v1, vs1, d1, ds1, p1, q1, rfl, rfl, rfl, h1, r1⟩ := trodAll_cons r0
  obtain ⟨v2, vs2, d2, ds2, p2, q2, rfl, rfl, rfl, h2, r2⟩ := trodAll_cons r1
  obtain ⟨rfl, rfl, rfl⟩ := trodAll_nil r2
  obtain rfl : args = #[v0, v1, v2] := by cases args; simp_all
  obtain ⟨rfl, rfl⟩ := trodVars_none hV
  have ft0 := fits_each hsz (j := 0) rfl rfl
  obtain ⟨rK, rA, rL, rC, rfl, okk0, okl0⟩ := open_Registry (hval 0 39 v0 rfl rfl) h0 ft0
  have ft1 := fits_each hsz (j := 1) rfl rfl
  obtain ⟨m, rfl, ok1⟩ := open_Module (hval 1 75 v1 rfl rfl) h1 ft1
  obtain ⟨nm, rfl, rfl, rfl, w2⟩ := open_string Tryz.underlying9 (hval 2 9 v2 rfl rfl) h2
  have z2 : nm.size ≤ 140737488351232 := by have := sized_string hsz (j := 2) (t := 9) rfl rfl; simpa [reachBytes] using this
  refine (PlanOthers_any rK rA rL rC m nm W okk0 okl0 ok1 z2).mono fun e W' ⟨he, hb⟩ => ?_
  subst he
  exact ⟨_, rfl, law_post Tryz.laidOut hW' rfl (by decide +kernel) rfl Tryz.underlying4 rfl rfl rfl hb⟩

theorem planOthers_holds : Rows.PlanOthersSaid :=
  OpenClaim.holds_of_wide 8 Tryz.f8 rfl rfl rfl rfl rfl rfl rfl ⟨rfl, rfl, rfl, rfl, rfl⟩ rfl rfl rfl rfl rfl (by kernel_rfl) Tryz.func8 planOthers_closed
    (of_decide_eq_true (by kernel_rfl)) (by unfold Func.isWrapper; first | (rw [if_pos (by decide +kernel)]; kernel_rfl) | (rw [if_neg (by decide +kernel)]; exact ⟨rfl, rfl⟩))
    (fun os started H enc _ => planOthers_lifted os started H enc)
#print axioms planOthers_holds


end Go.Proofs.YtogckcjcebckgaaGreat

