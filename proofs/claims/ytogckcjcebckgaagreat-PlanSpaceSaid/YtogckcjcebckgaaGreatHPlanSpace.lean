import Derived.Test.YtogckcjcebckgaaGreatKPlanThere
import Derived.Test.YtogckcjcebckgaaGreatG08
import Derived.Test.YtogckcjcebckgaaGreatG11
import Derived.Test.YtogckcjcebckgaaGreatKShut

namespace Go.Proofs.YtogckcjcebckgaaGreat
open Go.ChangeShapes Go.WideShapes Go.ChangeAt Go.RowKit Go.WideMaps Go.WideElems
open Go.ChangeMaps (setBlock shut_map_nil open_string shut_string keptBut_setBlock frozen?_setBlock heap_setBlock_same)

theorem space_inst2 {k : Krn} {l l1 : List Plc} {m : Mod} (h : planErr k ⟨1, m, ⟨#[]⟩⟩ l = 0) (hl1 : bares l1 = bares (cmL ⟨1, m, ⟨#[]⟩⟩ l)) :
    modErr m = 0 ∧ firstOf l (manyOf m) = (fitIn (manyOf m) (runsOf l), 0) ∧ ∃ i : Nat, idxOf (named m.name) l1 = i ∧ ∃ hi : i < l1.length, l1[i].first = fitIn (manyOf m) (runsOf l) := by
  obtain ⟨h0, _, hp, _⟩ := plan_zero h
  have hp : instPre l m = 0 := hp
  obtain ⟨e1, e2, _, e4⟩ := inst_zero hp
  have hm := many_ok e1
  refine ⟨e1, first_fit (rg_reg h0) hm.1 (by omega) e4, putAt l (fitIn (manyOf m) (runsOf l)), ?_⟩
  have hl2 : bares l1 = bares (instL l m) := hl1
  have hx : idxOf (named m.name) l1 = putAt l (fitIn (manyOf m) (runsOf l)) := by
    rw [← idx_bare, hl2, idx_bare]; exact idx_withL e2
  obtain ⟨w1, w2⟩ := withL_at l m (fitIn (manyOf m) (runsOf l))
  have hn : l1.length = (instL l m).length := len_like hl2
  refine ⟨hx, by rw [hn]; exact w1, ?_⟩
  rw [(first_of hl2 (j := putAt l (fitIn (manyOf m) (runsOf l))) (by rw [hn]; exact w1) w1).1]
  exact congrArg Plc.first w2
theorem space_upg {k : Krn} {l l1 : List Plc} {m : Mod} (h : planErr k ⟨3, m, ⟨#[]⟩⟩ l = 0) (hl1 : bares l1 = bares (cmL ⟨3, m, ⟨#[]⟩⟩ l)) :
    modErr m = 0 ∧ (∃ j q : Nat, idxOf (named m.name) l = j ∧ idxOf (named m.name) l1 = q ∧ ∃ (hj : j < l.length) (hq : q < l1.length), modErr l[j].m = 0 ∧ (manyOf m ≤ manyOf l[j].m → l1[q].first = l[j].first)) := by
  obtain ⟨h0, _, hp, _⟩ := plan_zero h
  have hp : upgPre l m = 0 := hp
  obtain ⟨e1, e2, _⟩ := upg_zero hp
  obtain ⟨j, hj⟩ : ∃ j : Nat, idxOf (named m.name) l = j := ⟨(idxOf (named m.name) l).toNat, by omega⟩
  obtain ⟨hjl, _, _⟩ := find_idx hj
  have hl2 : bares l1 = bares (upgL l m) := hl1
  have hx : idxOf (named m.name) l1 = putAt (remL l m.name) (upgAt l m) := by
    rw [← idx_bare, hl2, idx_bare]; exact upg_place (rg_nodup h0) hp
  obtain ⟨w1, w2⟩ := withL_at (remL l m.name) m (upgAt l m)
  have hn : l1.length = (upgL l m).length := len_like hl2
  refine ⟨e1, j, _, hj, hx, hjl, by rw [hn]; exact w1, (rg_facts h0).1 _ (List.getElem_mem _), fun hle => ?_⟩
  rw [(first_of hl2 (j := putAt (remL l m.name) (upgAt l m)) (by rw [hn]; exact w1) w1).1]
  exact (congrArg Plc.first w2).trans (upg_here (rg_facts h0).2.1 e1 hj hjl hle)

set_option maxRecDepth 100000 in
set_option maxHeartbeats 4000000 in
theorem PlanSpace_any (k : Krn) (A : Option Addr) (l : List Plc) (c : Nat) (m : Mod) (w : World) (hk : k.ok w) (h : PlsOk w A l) (hm : m.ok w) :
    Calls Tryz.prog 9 #[.agg #[.int .i64 k.major, .int .i64 k.minor, .slice k.eA k.ex.length k.eC, .slice A l.length c], m.v] w fun e w' => e = .returned (.bool true) ∧ Below w.heap.size w w' := by
  obtain ⟨w0, e0⟩ : ∃ w0, w0 = w := ⟨_, rfl⟩
  have HB0 := Lib.hid (show Below w.heap.size w w0 from e0 ▸ Below.refl _ _)
  have HT0 := Lib.hid (show RgThere w0 k A l from e0 ▸ ⟨hk, h⟩)
  have HMO0 := Lib.hid (show m.ok w0 from e0 ▸ hm)
  subst e0
  obtain ⟨w1, hw1⟩ : ∃ w1, w1 = w0.alloc (.cells #[.int .i64 k.major, .int .i64 k.minor, .slice k.eA k.ex.length k.eC, .slice A l.length c] 39) := ⟨_, rfl⟩
  have hb1 : Below w0.heap.size w0 w1 := hw1 ▸ (Below.refl _ _).alloc (Nat.le_refl _) _
  have HB1 := Lib.hid (HB0.out.trans (hb1.mono HB0.out.size))
  have HT1 := Lib.hid (HT0.out.below hb1)
  have HMO1 := Lib.hid (HMO0.out.below hb1)
  have HR1 := Lib.hid (show w1.heap[w0.heap.size]? = some (.cells #[.int .i64 k.major, .int .i64 k.minor, .slice k.eA k.ex.length k.eC, .slice A l.length c] 39 (0, 0)) by rw [hw1]; exact heap_alloc_new w0 _)
  have HSZ1 := Lib.hid (show w1.heap.size = w0.heap.size + 1 by rw [hw1]; simp)
  have hw1' := hw1.symm
  clear hw1 hb1
  obtain ⟨w2, hw2⟩ : ∃ w2, w2 = w1.alloc (.cells #[.string m.name, .int .i64 m.major, .int .i64 m.minor, .string m.text, .slice m.eA m.ex.length m.eC, .slice m.iA m.im.length m.iC, .slice m.pA m.pa.length m.pC] 75) := ⟨_, rfl⟩
  have hb2 : Below w1.heap.size w1 w2 := hw2 ▸ (Below.refl _ _).alloc (Nat.le_refl _) _
  have hneRM := Lib.hid (Nat.ne_of_lt (Array.getElem?_eq_some_iff.1 HR1.out).1)
  have HB2 := Lib.hid (HB1.out.trans (hb2.mono HB1.out.size))
  have HT2 := Lib.hid (HT1.out.below hb2)
  have HMO2 := Lib.hid (HMO1.out.below hb2)
  have HR2 := Lib.hid (blk' hb2 HR1.out)
  have HM2 := Lib.hid (show w2.heap[w1.heap.size]? = some (.cells #[.string m.name, .int .i64 m.major, .int .i64 m.minor, .string m.text, .slice m.eA m.ex.length m.eC, .slice m.iA m.im.length m.iC, .slice m.pA m.pa.length m.pC] 75 (0, 0)) by rw [hw2]; exact heap_alloc_new w1 _)
  have HSZ2 := Lib.hid (show w2.heap.size = w1.heap.size + 1 by rw [hw2]; simp)
  have hw2' := hw2.symm
  clear hw2 hb2
  have HU1 := Lib.hid (plan_there (cm := ⟨1, m, ⟨#[]⟩⟩) hk h hm)
  have HU3 := Lib.hid (plan_there (cm := ⟨3, m, ⟨#[]⟩⟩) hk h hm)
  obtain ⟨F1, hF1⟩ : ∃ F, F = planErr k ⟨1, m, ⟨#[]⟩⟩ l := ⟨_, rfl⟩
  obtain ⟨F3, hF3⟩ : ∃ F, F = planErr k ⟨3, m, ⟨#[]⟩⟩ l := ⟨_, rfl⟩
  have HF1 := Lib.hid hF1
  have HF3 := Lib.hid hF3
  rw [← hF1] at HU1
  rw [← hF3] at HU3
  have HLB := Lib.hid h.len
  clear hk h hm hF1 hF3
  go_enter Tryz.func9, Tryz.ntmps9
  go_wp2_with fail
  refine (planBegun_any _).mono ?_; rintro e w3 ⟨rfl, hb3⟩
  have HB3 := Lib.hid (HB2.out.trans (hb3.mono HB2.out.size))
  have HT3 := Lib.hid (HT2.out.below hb3)
  have HMO3 := Lib.hid (HMO2.out.below hb3)
  have HR3 := Lib.hid (blk' hb3 HR2.out)
  have HM3 := Lib.hid (blk' hb3 HM2.out)
  clear hb3
  go_wp2_with fail
  refine (regionBegun_any _).mono ?_; rintro e w4 ⟨rfl, hb4⟩
  have HB4 := Lib.hid (HB3.out.trans (hb4.mono HB3.out.size))
  have HT4 := Lib.hid (HT3.out.below hb4)
  have HMO4 := Lib.hid (HMO3.out.below hb4)
  have HR4 := Lib.hid (blk' hb4 HR3.out)
  have HM4 := Lib.hid (blk' hb4 HM3.out)
  clear hb4
  have f1 := Lib.hid (PInstall_any k A c l m w4 HT4.out.1 HT4.out.2 HMO4.out)
  rw [← HF1.out] at f1
  obtain ⟨_, r0, r1, r2, r3, rf0, rf1, rf2, rf3⟩ := rgcells HR4.out
  obtain ⟨n0, n1, n2, n3, n4, n5, n6⟩ := box_mod HM4.out
  go_wp2_with fail
  refine (f1.out).mono ?_; rintro e w5 ⟨⟨k1, A1, l1, c1, rfl, hrg⟩, hb5⟩
  have HB5 := Lib.hid (HB4.out.trans (hb5.mono HB4.out.size))
  have HT5 := Lib.hid (HT4.out.below hb5)
  have HMO5 := Lib.hid (HMO4.out.below hb5)
  have HR5 := Lib.hid (blk' hb5 HR4.out)
  have HM5 := Lib.hid (blk' hb5 HM4.out)
  have HP5 := Lib.hid (HU1.out _ _ _ _ _ _ hrg).1
  have HS1 := Lib.hid (HU1.out _ _ _ _ _ _ hrg).2
  clear r0 r1 r2 r3 rf0 rf1 rf2 rf3
  clear hrg hb5 f1 n0 n1 n2 n3 n4 n5 n6
  obtain ⟨w6, hw6⟩ : ∃ w6, w6 = w5.alloc (.cells #[.int .i64 k1.major, .int .i64 k1.minor, .slice k1.eA k1.ex.length k1.eC, .slice A1 l1.length c1] 39) := ⟨_, rfl⟩
  have hb6 : Below w5.heap.size w5 w6 := hw6 ▸ (Below.refl _ _).alloc (Nat.le_refl _) _
  have hneRA := Lib.hid (Nat.ne_of_lt (Array.getElem?_eq_some_iff.1 HR5.out).1)
  have hneMA := Lib.hid (Nat.ne_of_lt (Array.getElem?_eq_some_iff.1 HM5.out).1)
  have HB6 := Lib.hid (HB5.out.trans (hb6.mono HB5.out.size))
  have HT6 := Lib.hid (HT5.out.below hb6)
  have HMO6 := Lib.hid (HMO5.out.below hb6)
  have HR6 := Lib.hid (blk' hb6 HR5.out)
  have HM6 := Lib.hid (blk' hb6 HM5.out)
  have HP6 := Lib.hid (HP5.out.below hb6)
  have HA6 := Lib.hid (show w6.heap[w5.heap.size]? = some (.cells #[.int .i64 k1.major, .int .i64 k1.minor, .slice k1.eA k1.ex.length k1.eC, .slice A1 l1.length c1] 39 (0, 0)) by rw [hw6]; exact heap_alloc_new w5 _)
  have HSZ6 := Lib.hid (show w6.heap.size = w5.heap.size + 1 by rw [hw6]; simp)
  have hw6' := hw6.symm
  clear hw6 hb6
  by_cases t1 : F1 = 0
  · obtain ⟨e1, e2, i, hi, hil, hif⟩ := space_inst2 (HF1.out.symm.trans t1) (HS1.out.1 t1).2
    have t1' : (F1 == 0) = true := by simp [t1]
    have cS := Lib.hid (fun W (hb : Below w6.heap.size w6 W) => Size_any m W (HMO6.out.below hb))
    rw [e1, if_neg (by simp)] at cS
    have cF := Lib.hid (fun W (hb : Below w6.heap.size w6 W) => First_any A c l (manyOf m) W (HT6.out.2.below hb))
    rw [e2] at cF
    have cP := Lib.hid (fun W (hb : Below w6.heap.size w6 W) => PlaceOf_any A1 c1 l1 m.name W (HP6.out.2.below hb).row (HP6.out.2.below hb).len)
    rw [hi] at cP
    obtain ⟨mm, hmm⟩ : ∃ mm, mm = manyOf m := ⟨_, rfl⟩
    rw [← hmm] at cS cF hif
    obtain ⟨fi, hfi⟩ : ∃ fi, fi = fitIn mm (runsOf l) := ⟨_, rfl⟩
    rw [← hfi] at cF hif
    have HIF := Lib.hid hif
    have hi0 : decide ((i : Int) < 0) = false := decide_eq_false (by omega)
    have hil' : (i : Int) < l1.length := by omega
    have HIL := Lib.hid hil
    clear e1 e2 hi hmm hfi hif
    obtain ⟨n0, n1, n2, n3, n4, n5, n6⟩ := box_mod HM6.out
    go_wp2_with fail
    refine (cS.out _ (Below.refl _ _)).mono ?_; rintro e w7 ⟨rfl, hb7⟩
    have HB7 := Lib.hid (HB6.out.trans (hb7.mono HB6.out.size))
    have HT7 := Lib.hid (HT6.out.below hb7)
    have HMO7 := Lib.hid (HMO6.out.below hb7)
    have HR7 := Lib.hid (blk' hb7 HR6.out)
    have HM7 := Lib.hid (blk' hb7 HM6.out)
    have HP7 := Lib.hid (HP6.out.below hb7)
    have HA7 := Lib.hid (blk' hb7 HA6.out)
    have HX7 := Lib.hid hb7
    clear hb7 cS n0 n1 n2 n3 n4 n5 n6
    obtain ⟨_, r0, r1, r2, r3, rf0, rf1, rf2, rf3⟩ := rgcells HR7.out
    go_wp2_with fail
    refine (cF.out _ HX7.out).mono ?_; rintro e w8 ⟨rfl, hb8⟩
    have HB8 := Lib.hid (HB7.out.trans (hb8.mono HB7.out.size))
    have HT8 := Lib.hid (HT7.out.below hb8)
    have HMO8 := Lib.hid (HMO7.out.below hb8)
    have HR8 := Lib.hid (blk' hb8 HR7.out)
    have HM8 := Lib.hid (blk' hb8 HM7.out)
    have HP8 := Lib.hid (HP7.out.below hb8)
    have HA8 := Lib.hid (blk' hb8 HA7.out)
    have HX8 := Lib.hid (HX7.out.trans (hb8.mono HX7.out.size))
    clear r0 r1 r2 r3 rf0 rf1 rf2 rf3
    clear hb8 cF
    obtain ⟨_, r0, r1, r2, r3, rf0, rf1, rf2, rf3⟩ := rgcells HA8.out
    obtain ⟨n0, n1, n2, n3, n4, n5, n6⟩ := box_mod HM8.out
    go_wp2_with fail
    refine (cP.out _ HX8.out).mono ?_; rintro e w9 ⟨rfl, hb9⟩
    have HB9 := Lib.hid (HB8.out.trans (hb9.mono HB8.out.size))
    have HT9 := Lib.hid (HT8.out.below hb9)
    have HMO9 := Lib.hid (HMO8.out.below hb9)
    have HR9 := Lib.hid (blk' hb9 HR8.out)
    have HM9 := Lib.hid (blk' hb9 HM8.out)
    have HP9 := Lib.hid (HP8.out.below hb9)
    have HA9 := Lib.hid (blk' hb9 HA8.out)
    clear r0 r1 r2 r3 rf0 rf1 rf2 rf3
    clear hb9 cP n0 n1 n2 n3 n4 n5 n6
    obtain ⟨_, x0, x1, x2, x3, xf0, xf1, xf2, xf3⟩ := rgcells HA9.out
    obtain ⟨ad, rfl, hab, _, _, _, _, _, _, _, p7⟩ := plc_at HP9.out.2.row (Below.refl _ _) i HIL.out
    rw [HIF.out] at p7
    have f3 := Lib.hid (PUpgrade_any k A c l m w9 HT9.out.1 HT9.out.2 HMO9.out)
    rw [← HF3.out] at f3
    obtain ⟨_, r0, r1, r2, r3, rf0, rf1, rf2, rf3⟩ := rgcells HR9.out
    obtain ⟨n0, n1, n2, n3, n4, n5, n6⟩ := box_mod HM9.out
    go_wp2_with fail
    refine (f3.out).mono ?_; rintro e w10 ⟨⟨k3, A3, l3, c3, rfl, hrg⟩, hb10⟩
    have HB10 := Lib.hid (HB9.out.trans (hb10.mono HB9.out.size))
    have HT10 := Lib.hid (HT9.out.below hb10)
    have HMO10 := Lib.hid (HMO9.out.below hb10)
    have HR10 := Lib.hid (blk' hb10 HR9.out)
    have HM10 := Lib.hid (blk' hb10 HM9.out)
    have HP10 := Lib.hid (HP9.out.below hb10)
    have HA10 := Lib.hid (blk' hb10 HA9.out)
    have HV10 := Lib.hid (HU3.out _ _ _ _ _ _ hrg).1
    have HS3 := Lib.hid (HU3.out _ _ _ _ _ _ hrg).2
    clear r0 r1 r2 r3 rf0 rf1 rf2 rf3
    clear hrg hb10 f3 n0 n1 n2 n3 n4 n5 n6
    obtain ⟨w11, hw11⟩ : ∃ w11, w11 = w10.alloc (.cells #[.int .i64 k3.major, .int .i64 k3.minor, .slice k3.eA k3.ex.length k3.eC, .slice A3 l3.length c3] 39) := ⟨_, rfl⟩
    have hb11 : Below w10.heap.size w10 w11 := hw11 ▸ (Below.refl _ _).alloc (Nat.le_refl _) _
    have hneRE := Lib.hid (Nat.ne_of_lt (Array.getElem?_eq_some_iff.1 HR10.out).1)
    have hneME := Lib.hid (Nat.ne_of_lt (Array.getElem?_eq_some_iff.1 HM10.out).1)
    have hneAE := Lib.hid (Nat.ne_of_lt (Array.getElem?_eq_some_iff.1 HA10.out).1)
    have HB11 := Lib.hid (HB10.out.trans (hb11.mono HB10.out.size))
    have HT11 := Lib.hid (HT10.out.below hb11)
    have HMO11 := Lib.hid (HMO10.out.below hb11)
    have HR11 := Lib.hid (blk' hb11 HR10.out)
    have HM11 := Lib.hid (blk' hb11 HM10.out)
    have HP11 := Lib.hid (HP10.out.below hb11)
    have HA11 := Lib.hid (blk' hb11 HA10.out)
    have HV11 := Lib.hid (HV10.out.below hb11)
    have HE11 := Lib.hid (show w11.heap[w10.heap.size]? = some (.cells #[.int .i64 k3.major, .int .i64 k3.minor, .slice k3.eA k3.ex.length k3.eC, .slice A3 l3.length c3] 39 (0, 0)) by rw [hw11]; exact heap_alloc_new w10 _)
    have HSZ11 := Lib.hid (show w11.heap.size = w10.heap.size + 1 by rw [hw11]; simp)
    have hw11' := hw11.symm
    clear hw11 hb11
    by_cases t : F3 = 0
    · obtain ⟨e1, j, q, hj, hq, hjl, hql, em, hle⟩ := space_upg (HF3.out.symm.trans t) (HS3.out.1 t).2
      obtain ⟨y, hy⟩ : ∃ y, y = l[j]'hjl := ⟨_, rfl⟩
      simp only [← hy] at em hle
      have HYM := Lib.hid (show y ∈ l from hy ▸ List.getElem_mem hjl)
      have HY := Lib.hid hy
      have t3 : (F3 != 0) = false := by simp [t]
      have cA := Lib.hid (fun W (hb : Below w11.heap.size w11 W) => PlaceOf_any A c l m.name W (HT11.out.2.below hb).row (HT11.out.2.below hb).len)
      have cB := Lib.hid (fun W (hb : Below w11.heap.size w11 W) => PlaceOf_any A3 c3 l3 m.name W (HV11.out.2.below hb).row (HV11.out.2.below hb).len)
      rw [hj] at cA
      rw [hq] at cB
      have HE1 := Lib.hid e1
      have HEM := Lib.hid em
      have HLE := Lib.hid hle
      have HJL := Lib.hid hjl
      have HQL := Lib.hid hql
      have hj0 : decide ((j : Int) < 0) = false := decide_eq_false (by omega)
      have hq0 : decide ((q : Int) < 0) = false := decide_eq_false (by omega)
      clear t e1 hj hq em hle hy
      obtain ⟨_, r0, r1, r2, r3, rf0, rf1, rf2, rf3⟩ := rgcells HR11.out
      obtain ⟨_, x0, x1, x2, x3, xf0, xf1, xf2, xf3⟩ := rgcells HE11.out
      obtain ⟨n0, n1, n2, n3, n4, n5, n6⟩ := box_mod HM11.out
      have hr1 := (Array.getElem?_eq_some_iff.1 HR11.out).1
      have hr2 := (Array.getElem?_eq_some_iff.1 HM11.out).1
      have hr3 := (Array.getElem?_eq_some_iff.1 HE11.out).1
      have HC0 := Lib.hid (show Below w11.heap.size w11 w11 ∧ w11.cell? ⟨w0.heap.size, 3, none⟩ = some (.slice A l.length c) ∧ w11.cell? ⟨w1.heap.size, 0, none⟩ = some (.string m.name) ∧ w11.cell? ⟨w10.heap.size, 3, none⟩ = some (.slice A3 l3.length c3) from ⟨Below.refl _ _, by assumption, by assumption, by assumption⟩)
      have HCD := Lib.hid (show ∀ W' : World, (Below w11.heap.size w11 W' ∧ W'.cell? ⟨w0.heap.size, 3, none⟩ = some (.slice A l.length c) ∧ W'.cell? ⟨w1.heap.size, 0, none⟩ = some (.string m.name) ∧ W'.cell? ⟨w10.heap.size, 3, none⟩ = some (.slice A3 l3.length c3)) → (Below w11.heap.size w11 W'.drew ∧ W'.drew.cell? ⟨w0.heap.size, 3, none⟩ = some (.slice A l.length c) ∧ W'.drew.cell? ⟨w1.heap.size, 0, none⟩ = some (.string m.name) ∧ W'.drew.cell? ⟨w10.heap.size, 3, none⟩ = some (.slice A3 l3.length c3)) from fun W' ⟨b, a0, a1, a2⟩ => ⟨b.drew, a0, a1, a2⟩)
      have HCS := Lib.hid (show ∀ W' W2 : World, (Below w11.heap.size w11 W' ∧ W'.cell? ⟨w0.heap.size, 3, none⟩ = some (.slice A l.length c) ∧ W'.cell? ⟨w1.heap.size, 0, none⟩ = some (.string m.name) ∧ W'.cell? ⟨w10.heap.size, 3, none⟩ = some (.slice A3 l3.length c3)) → Below W'.heap.size W' W2 → (Below w11.heap.size w11 W2 ∧ W2.cell? ⟨w0.heap.size, 3, none⟩ = some (.slice A l.length c) ∧ W2.cell? ⟨w1.heap.size, 0, none⟩ = some (.string m.name) ∧ W2.cell? ⟨w10.heap.size, 3, none⟩ = some (.slice A3 l3.length c3)) from fun W' W2 ⟨b, a0, a1, a2⟩ hb => have s := b.size; ⟨b.trans (hb.mono s), (hb.cell (by first | omega | (simp; omega) | (simp only [block_of_add]; omega))).trans a0, (hb.cell (by first | omega | (simp; omega) | (simp only [block_of_add]; omega))).trans a1, (hb.cell (by first | omega | (simp; omega) | (simp only [block_of_add]; omega))).trans a2⟩)
      have HCA := Lib.hid (show ∀ (W' : World) (o : Obj), (Below w11.heap.size w11 W' ∧ W'.cell? ⟨w0.heap.size, 3, none⟩ = some (.slice A l.length c) ∧ W'.cell? ⟨w1.heap.size, 0, none⟩ = some (.string m.name) ∧ W'.cell? ⟨w10.heap.size, 3, none⟩ = some (.slice A3 l3.length c3)) → (Below w11.heap.size w11 (W'.alloc o) ∧ (W'.alloc o).cell? ⟨w0.heap.size, 3, none⟩ = some (.slice A l.length c) ∧ (W'.alloc o).cell? ⟨w1.heap.size, 0, none⟩ = some (.string m.name) ∧ (W'.alloc o).cell? ⟨w10.heap.size, 3, none⟩ = some (.slice A3 l3.length c3)) from fun W' o hc => HCS.out W' (W'.alloc o) hc ((Below.refl _ _).alloc (Nat.le_refl _) o))
      have HCX := Lib.hid (show ∀ (W' : World) (bX oX : Nat) (vX : Value), w11.heap.size ≤ bX → (Below w11.heap.size w11 W' ∧ W'.cell? ⟨w0.heap.size, 3, none⟩ = some (.slice A l.length c) ∧ W'.cell? ⟨w1.heap.size, 0, none⟩ = some (.string m.name) ∧ W'.cell? ⟨w10.heap.size, 3, none⟩ = some (.slice A3 l3.length c3)) → (Below w11.heap.size w11 (W'.setCell ⟨bX, oX, none⟩ vX) ∧ (W'.setCell ⟨bX, oX, none⟩ vX).cell? ⟨w0.heap.size, 3, none⟩ = some (.slice A l.length c) ∧ (W'.setCell ⟨bX, oX, none⟩ vX).cell? ⟨w1.heap.size, 0, none⟩ = some (.string m.name) ∧ (W'.setCell ⟨bX, oX, none⟩ vX).cell? ⟨w10.heap.size, 3, none⟩ = some (.slice A3 l3.length c3)) from fun W' bX oX vX hbX ⟨b, a0, a1, a2⟩ => ⟨b.setCell (p := ⟨bX, oX, none⟩) hbX vX, (((Below.refl _ _).setCell (p := ⟨bX, oX, none⟩) hbX vX).cell (by first | omega | (simp; omega) | (simp only [block_of_add]; omega))).trans a0, (((Below.refl _ _).setCell (p := ⟨bX, oX, none⟩) hbX vX).cell (by first | omega | (simp; omega) | (simp only [block_of_add]; omega))).trans a1, (((Below.refl _ _).setCell (p := ⟨bX, oX, none⟩) hbX vX).cell (by first | omega | (simp; omega) | (simp only [block_of_add]; omega))).trans a2⟩)
      have HCL := Lib.hid (show ∀ W' : World, (Below w11.heap.size w11 W' ∧ W'.cell? ⟨w0.heap.size, 3, none⟩ = some (.slice A l.length c) ∧ W'.cell? ⟨w1.heap.size, 0, none⟩ = some (.string m.name) ∧ W'.cell? ⟨w10.heap.size, 3, none⟩ = some (.slice A3 l3.length c3)) → Below w11.heap.size w11 W' from fun W' hc => hc.1)
      go_wp2_with fail
      go_region_held3 (fun W' => Below w11.heap.size w11 W' ∧ W'.cell? ⟨w0.heap.size, 3, none⟩ = some (.slice A l.length c) ∧ W'.cell? ⟨w1.heap.size, 0, none⟩ = some (.string m.name) ∧ W'.cell? ⟨w10.heap.size, 3, none⟩ = some (.slice A3 l3.length c3)) (first | with_reducible exact HC0.out | with_reducible exact HCD.out _ HC0.out | with_reducible exact HCS.out _ _ (by assumption) (by assumption) | with_reducible exact HCS.out _ _ HC0.out (by assumption) | with_reducible exact HCS.out _ _ (HCD.out _ HC0.out) (by assumption) | with_reducible exact HCS.out _ _ (HCD.out _ (by assumption)) (by assumption) | with_reducible exact HCD.out _ (by assumption) | with_reducible exact HCA.out _ _ (by assumption) | with_reducible exact HCA.out _ _ HC0.out | with_reducible exact HCA.out _ _ (HCD.out _ HC0.out) | with_reducible exact HCD.out _ (HCA.out _ _ (by assumption)) | with_reducible exact HCA.out _ _ (HCS.out _ _ HC0.out (by assumption)) | with_reducible exact HCA.out _ _ (HCS.out _ _ (HCD.out _ HC0.out) (by assumption)) | with_reducible exact HCX.out _ _ _ _ (Nat.le_refl _) (by assumption) | with_reducible exact HCX.out _ _ _ _ (Nat.le_refl _) (HCS.out _ _ (HCA.out _ _ HC0.out) (by assumption)) | with_reducible exact HCX.out _ _ _ _ (Nat.le_refl _) (HCS.out _ _ (HCD.out _ (HCA.out _ _ HC0.out)) (by assumption)) | with_reducible assumption | exact HC0.out | exact HCD.out _ HC0.out | exact HCS.out _ _ (by assumption) (by assumption) | exact HCS.out _ _ HC0.out (by assumption) | exact HCS.out _ _ (HCD.out _ HC0.out) (by assumption) | exact HCS.out _ _ (HCD.out _ (by assumption)) (by assumption) | exact HCD.out _ (by assumption) | exact HCA.out _ _ (by assumption) | exact HCA.out _ _ HC0.out | exact HCA.out _ _ (HCD.out _ HC0.out) | exact HCD.out _ (HCA.out _ _ (by assumption)) | exact HCA.out _ _ (HCS.out _ _ HC0.out (by assumption)) | exact HCA.out _ _ (HCS.out _ _ (HCD.out _ HC0.out) (by assumption)) | exact HCX.out _ _ _ _ (Nat.le_refl _) (by assumption) | exact HCX.out _ _ _ _ (Nat.le_refl _) (HCS.out _ _ (HCA.out _ _ HC0.out) (by assumption)) | exact HCX.out _ _ _ _ (Nat.le_refl _) (HCS.out _ _ (HCD.out _ (HCA.out _ _ HC0.out)) (by assumption)) | assumption) (first | (go_at_call 58; first | ((with_reducible refine (cA.out _ (HCL.out _ (by first | with_reducible assumption | with_reducible exact HCD.out _ HC0.out | with_reducible exact HCD.out _ (by assumption)))).mono ?_); rintro e w12 ⟨rfl, hb12⟩) | ((with_reducible refine (cB.out _ (HCL.out _ (by first | with_reducible assumption | with_reducible exact HCD.out _ HC0.out | with_reducible exact HCD.out _ (by assumption)))).mono ?_); rintro e w13 ⟨rfl, hb13⟩)))
      have hb13' := HCL.out w13 (by assumption)
      have HB13 := Lib.hid (HB11.out.trans (hb13'.mono HB11.out.size))
      have HT13 := Lib.hid (HT11.out.below hb13')
      have HMO13 := Lib.hid (HMO11.out.below hb13')
      have HR13 := Lib.hid (blk' hb13' HR11.out)
      have HM13 := Lib.hid (blk' hb13' HM11.out)
      have HP13 := Lib.hid (HP11.out.below hb13')
      have HA13 := Lib.hid (blk' hb13' HA11.out)
      have HV13 := Lib.hid (HV11.out.below hb13')
      have HE13 := Lib.hid (blk' hb13' HE11.out)
      have cS1 := Lib.hid (fun W (hb : Below w13.heap.size w13 W) => Size_any m W (HMO13.out.below hb))
      have cS2 := Lib.hid (fun W (hb : Below w13.heap.size w13 W) => Size_any y.m W ((HT13.out.2.each y HYM.out).below hb))
      rw [HE1.out, if_neg (by simp)] at cS1
      rw [HEM.out, if_neg (by simp)] at cS2
      have HRJ := Lib.hid (fun W (hb : Below w13.heap.size w13 W) => plc_at HT13.out.2.row hb j hjl)
      have HRQ := Lib.hid (fun W (hb : Below w13.heap.size w13 W) => plc_at HV13.out.2.row hb q hql)
      simp only [← HY.out] at HRJ
      obtain ⟨mm2, hmm2⟩ : ∃ mm2, mm2 = manyOf m := ⟨_, rfl⟩
      obtain ⟨oo, hoo⟩ : ∃ oo, oo = manyOf y.m := ⟨_, rfl⟩
      rw [← hmm2] at cS1 HLE
      rw [← hoo] at cS2 HLE
      have hjI : (j : Int) < l.length := by omega
      have hqI : (q : Int) < l3.length := by omega
      clear hb13' hb12 hb13 HC0 HCD HCS HCA HCX HCL cA cB hr1 hr2 hr3 hmm2 hoo n0 n1 n2 n3 n4 n5 n6 HEM
      clear r0 r1 r2 r3 rf0 rf1 rf2 rf3; clear x0 x1 x2 x3 xf0 xf1 xf2 xf3
      obtain ⟨n0, n1, n2, n3, n4, n5, n6⟩ := box_mod HM13.out
      go_wp2_with fail
      refine (cS1.out _ (Below.refl _ _)).mono ?_; rintro e w14 ⟨rfl, hb14⟩
      have HB14 := Lib.hid (HB13.out.trans (hb14.mono HB13.out.size))
      have HT14 := Lib.hid (HT13.out.below hb14)
      have HMO14 := Lib.hid (HMO13.out.below hb14)
      have HR14 := Lib.hid (blk' hb14 HR13.out)
      have HM14 := Lib.hid (blk' hb14 HM13.out)
      have HP14 := Lib.hid (HP13.out.below hb14)
      have HA14 := Lib.hid (blk' hb14 HA13.out)
      have HV14 := Lib.hid (HV13.out.below hb14)
      have HE14 := Lib.hid (blk' hb14 HE13.out)
      have HX14 := Lib.hid hb14
      clear hb14 cS1 n0 n1 n2 n3 n4 n5 n6
      obtain ⟨_, r0, r1, r2, r3, rf0, rf1, rf2, rf3⟩ := rgcells HR14.out
      obtain ⟨ad5, rfl, _, v0, v1, v2, v3, v4, v5, v6, v7⟩ := HRJ.out w14 HX14.out
      go_wp2_with fail
      refine (cS2.out _ HX14.out).mono ?_; rintro e w15 ⟨rfl, hb15⟩
      have HB15 := Lib.hid (HB14.out.trans (hb15.mono HB14.out.size))
      have HT15 := Lib.hid (HT14.out.below hb15)
      have HMO15 := Lib.hid (HMO14.out.below hb15)
      have HR15 := Lib.hid (blk' hb15 HR14.out)
      have HM15 := Lib.hid (blk' hb15 HM14.out)
      have HP15 := Lib.hid (HP14.out.below hb15)
      have HA15 := Lib.hid (blk' hb15 HA14.out)
      have HV15 := Lib.hid (HV14.out.below hb15)
      have HE15 := Lib.hid (blk' hb15 HE14.out)
      have HX15 := Lib.hid (HX14.out.trans (hb15.mono HX14.out.size))
      clear r0 r1 r2 r3 rf0 rf1 rf2 rf3
      clear hb15 cS2 v0 v1 v2 v3 v4 v5 v6 v7
      obtain ⟨_, r0, r1, r2, r3, rf0, rf1, rf2, rf3⟩ := rgcells HR15.out
      obtain ⟨_, x0, x1, x2, x3, xf0, xf1, xf2, xf3⟩ := rgcells HE15.out
      obtain ⟨_, ea, _, _, _, _, _, _, _, _, v7⟩ := HRJ.out w15 HX15.out
      obtain rfl := Option.some.inj ea
      obtain ⟨ad6, rfl, _, _, _, _, _, _, _, _, u7⟩ := HRQ.out w15 HX15.out
      by_cases t4 : oo < mm2
      · have t4' : decide (oo < mm2) = true := decide_eq_true t4
        clear t4
        go_wp2_with fail
        go_quiet (fail)
        go_wp2_with fail
        go_ret
        exact ⟨by simp, below_drewN HB15.out nq⟩
      · have t4' : decide (oo < mm2) = false := decide_eq_false t4
        rw [HLE.out (by omega)] at u7
        clear t4
        go_wp2_with fail
        go_quiet (fail)
        go_wp2_with fail
        go_ret
        exact ⟨by simp, below_drewN HB15.out nq⟩
    · have t3 : (F3 != 0) = true := by simp [t]
      have hl := (HS3.out.2 t).2
      obtain ⟨_, r0, r1, r2, r3, rf0, rf1, rf2, rf3⟩ := rgcells HE11.out
      rw [hl] at r3
      clear hl t
      simp only [List.length_nil] at r3
      go_wp2_with fail
      go_ret
      exact ⟨by simp, HB11.out⟩

  · have t1' : (F1 == 0) = false := by simp [t1]
    have f3 := Lib.hid (PUpgrade_any k A c l m w6 HT6.out.1 HT6.out.2 HMO6.out)
    rw [← HF3.out] at f3
    obtain ⟨_, r0, r1, r2, r3, rf0, rf1, rf2, rf3⟩ := rgcells HR6.out
    obtain ⟨n0, n1, n2, n3, n4, n5, n6⟩ := box_mod HM6.out
    go_wp2_with fail
    refine (f3.out).mono ?_; rintro e w10 ⟨⟨k3, A3, l3, c3, rfl, hrg⟩, hb10⟩
    have HB10 := Lib.hid (HB6.out.trans (hb10.mono HB6.out.size))
    have HT10 := Lib.hid (HT6.out.below hb10)
    have HMO10 := Lib.hid (HMO6.out.below hb10)
    have HR10 := Lib.hid (blk' hb10 HR6.out)
    have HM10 := Lib.hid (blk' hb10 HM6.out)
    have HP10 := Lib.hid (HP6.out.below hb10)
    have HA10 := Lib.hid (blk' hb10 HA6.out)
    have HV10 := Lib.hid (HU3.out _ _ _ _ _ _ hrg).1
    have HS3 := Lib.hid (HU3.out _ _ _ _ _ _ hrg).2
    clear r0 r1 r2 r3 rf0 rf1 rf2 rf3
    clear hrg hb10 f3 n0 n1 n2 n3 n4 n5 n6
    obtain ⟨w11, hw11⟩ : ∃ w11, w11 = w10.alloc (.cells #[.int .i64 k3.major, .int .i64 k3.minor, .slice k3.eA k3.ex.length k3.eC, .slice A3 l3.length c3] 39) := ⟨_, rfl⟩
    have hb11 : Below w10.heap.size w10 w11 := hw11 ▸ (Below.refl _ _).alloc (Nat.le_refl _) _
    have hneRE := Lib.hid (Nat.ne_of_lt (Array.getElem?_eq_some_iff.1 HR10.out).1)
    have hneME := Lib.hid (Nat.ne_of_lt (Array.getElem?_eq_some_iff.1 HM10.out).1)
    have hneAE := Lib.hid (Nat.ne_of_lt (Array.getElem?_eq_some_iff.1 HA10.out).1)
    have HB11 := Lib.hid (HB10.out.trans (hb11.mono HB10.out.size))
    have HT11 := Lib.hid (HT10.out.below hb11)
    have HMO11 := Lib.hid (HMO10.out.below hb11)
    have HR11 := Lib.hid (blk' hb11 HR10.out)
    have HM11 := Lib.hid (blk' hb11 HM10.out)
    have HP11 := Lib.hid (HP10.out.below hb11)
    have HA11 := Lib.hid (blk' hb11 HA10.out)
    have HV11 := Lib.hid (HV10.out.below hb11)
    have HE11 := Lib.hid (show w11.heap[w10.heap.size]? = some (.cells #[.int .i64 k3.major, .int .i64 k3.minor, .slice k3.eA k3.ex.length k3.eC, .slice A3 l3.length c3] 39 (0, 0)) by rw [hw11]; exact heap_alloc_new w10 _)
    have HSZ11 := Lib.hid (show w11.heap.size = w10.heap.size + 1 by rw [hw11]; simp)
    have hw11' := hw11.symm
    clear hw11 hb11
    by_cases t : F3 = 0
    · obtain ⟨e1, j, q, hj, hq, hjl, hql, em, hle⟩ := space_upg (HF3.out.symm.trans t) (HS3.out.1 t).2
      obtain ⟨y, hy⟩ : ∃ y, y = l[j]'hjl := ⟨_, rfl⟩
      simp only [← hy] at em hle
      have HYM := Lib.hid (show y ∈ l from hy ▸ List.getElem_mem hjl)
      have HY := Lib.hid hy
      have t3 : (F3 != 0) = false := by simp [t]
      have cA := Lib.hid (fun W (hb : Below w11.heap.size w11 W) => PlaceOf_any A c l m.name W (HT11.out.2.below hb).row (HT11.out.2.below hb).len)
      have cB := Lib.hid (fun W (hb : Below w11.heap.size w11 W) => PlaceOf_any A3 c3 l3 m.name W (HV11.out.2.below hb).row (HV11.out.2.below hb).len)
      rw [hj] at cA
      rw [hq] at cB
      have HE1 := Lib.hid e1
      have HEM := Lib.hid em
      have HLE := Lib.hid hle
      have HJL := Lib.hid hjl
      have HQL := Lib.hid hql
      have hj0 : decide ((j : Int) < 0) = false := decide_eq_false (by omega)
      have hq0 : decide ((q : Int) < 0) = false := decide_eq_false (by omega)
      clear t e1 hj hq em hle hy
      obtain ⟨_, r0, r1, r2, r3, rf0, rf1, rf2, rf3⟩ := rgcells HR11.out
      obtain ⟨_, x0, x1, x2, x3, xf0, xf1, xf2, xf3⟩ := rgcells HE11.out
      obtain ⟨n0, n1, n2, n3, n4, n5, n6⟩ := box_mod HM11.out
      have hr1 := (Array.getElem?_eq_some_iff.1 HR11.out).1
      have hr2 := (Array.getElem?_eq_some_iff.1 HM11.out).1
      have hr3 := (Array.getElem?_eq_some_iff.1 HE11.out).1
      have HC0 := Lib.hid (show Below w11.heap.size w11 w11 ∧ w11.cell? ⟨w0.heap.size, 3, none⟩ = some (.slice A l.length c) ∧ w11.cell? ⟨w1.heap.size, 0, none⟩ = some (.string m.name) ∧ w11.cell? ⟨w10.heap.size, 3, none⟩ = some (.slice A3 l3.length c3) from ⟨Below.refl _ _, by assumption, by assumption, by assumption⟩)
      have HCD := Lib.hid (show ∀ W' : World, (Below w11.heap.size w11 W' ∧ W'.cell? ⟨w0.heap.size, 3, none⟩ = some (.slice A l.length c) ∧ W'.cell? ⟨w1.heap.size, 0, none⟩ = some (.string m.name) ∧ W'.cell? ⟨w10.heap.size, 3, none⟩ = some (.slice A3 l3.length c3)) → (Below w11.heap.size w11 W'.drew ∧ W'.drew.cell? ⟨w0.heap.size, 3, none⟩ = some (.slice A l.length c) ∧ W'.drew.cell? ⟨w1.heap.size, 0, none⟩ = some (.string m.name) ∧ W'.drew.cell? ⟨w10.heap.size, 3, none⟩ = some (.slice A3 l3.length c3)) from fun W' ⟨b, a0, a1, a2⟩ => ⟨b.drew, a0, a1, a2⟩)
      have HCS := Lib.hid (show ∀ W' W2 : World, (Below w11.heap.size w11 W' ∧ W'.cell? ⟨w0.heap.size, 3, none⟩ = some (.slice A l.length c) ∧ W'.cell? ⟨w1.heap.size, 0, none⟩ = some (.string m.name) ∧ W'.cell? ⟨w10.heap.size, 3, none⟩ = some (.slice A3 l3.length c3)) → Below W'.heap.size W' W2 → (Below w11.heap.size w11 W2 ∧ W2.cell? ⟨w0.heap.size, 3, none⟩ = some (.slice A l.length c) ∧ W2.cell? ⟨w1.heap.size, 0, none⟩ = some (.string m.name) ∧ W2.cell? ⟨w10.heap.size, 3, none⟩ = some (.slice A3 l3.length c3)) from fun W' W2 ⟨b, a0, a1, a2⟩ hb => have s := b.size; ⟨b.trans (hb.mono s), (hb.cell (by first | omega | (simp; omega) | (simp only [block_of_add]; omega))).trans a0, (hb.cell (by first | omega | (simp; omega) | (simp only [block_of_add]; omega))).trans a1, (hb.cell (by first | omega | (simp; omega) | (simp only [block_of_add]; omega))).trans a2⟩)
      have HCA := Lib.hid (show ∀ (W' : World) (o : Obj), (Below w11.heap.size w11 W' ∧ W'.cell? ⟨w0.heap.size, 3, none⟩ = some (.slice A l.length c) ∧ W'.cell? ⟨w1.heap.size, 0, none⟩ = some (.string m.name) ∧ W'.cell? ⟨w10.heap.size, 3, none⟩ = some (.slice A3 l3.length c3)) → (Below w11.heap.size w11 (W'.alloc o) ∧ (W'.alloc o).cell? ⟨w0.heap.size, 3, none⟩ = some (.slice A l.length c) ∧ (W'.alloc o).cell? ⟨w1.heap.size, 0, none⟩ = some (.string m.name) ∧ (W'.alloc o).cell? ⟨w10.heap.size, 3, none⟩ = some (.slice A3 l3.length c3)) from fun W' o hc => HCS.out W' (W'.alloc o) hc ((Below.refl _ _).alloc (Nat.le_refl _) o))
      have HCX := Lib.hid (show ∀ (W' : World) (bX oX : Nat) (vX : Value), w11.heap.size ≤ bX → (Below w11.heap.size w11 W' ∧ W'.cell? ⟨w0.heap.size, 3, none⟩ = some (.slice A l.length c) ∧ W'.cell? ⟨w1.heap.size, 0, none⟩ = some (.string m.name) ∧ W'.cell? ⟨w10.heap.size, 3, none⟩ = some (.slice A3 l3.length c3)) → (Below w11.heap.size w11 (W'.setCell ⟨bX, oX, none⟩ vX) ∧ (W'.setCell ⟨bX, oX, none⟩ vX).cell? ⟨w0.heap.size, 3, none⟩ = some (.slice A l.length c) ∧ (W'.setCell ⟨bX, oX, none⟩ vX).cell? ⟨w1.heap.size, 0, none⟩ = some (.string m.name) ∧ (W'.setCell ⟨bX, oX, none⟩ vX).cell? ⟨w10.heap.size, 3, none⟩ = some (.slice A3 l3.length c3)) from fun W' bX oX vX hbX ⟨b, a0, a1, a2⟩ => ⟨b.setCell (p := ⟨bX, oX, none⟩) hbX vX, (((Below.refl _ _).setCell (p := ⟨bX, oX, none⟩) hbX vX).cell (by first | omega | (simp; omega) | (simp only [block_of_add]; omega))).trans a0, (((Below.refl _ _).setCell (p := ⟨bX, oX, none⟩) hbX vX).cell (by first | omega | (simp; omega) | (simp only [block_of_add]; omega))).trans a1, (((Below.refl _ _).setCell (p := ⟨bX, oX, none⟩) hbX vX).cell (by first | omega | (simp; omega) | (simp only [block_of_add]; omega))).trans a2⟩)
      have HCL := Lib.hid (show ∀ W' : World, (Below w11.heap.size w11 W' ∧ W'.cell? ⟨w0.heap.size, 3, none⟩ = some (.slice A l.length c) ∧ W'.cell? ⟨w1.heap.size, 0, none⟩ = some (.string m.name) ∧ W'.cell? ⟨w10.heap.size, 3, none⟩ = some (.slice A3 l3.length c3)) → Below w11.heap.size w11 W' from fun W' hc => hc.1)
      go_wp2_with fail
      go_region_held3 (fun W' => Below w11.heap.size w11 W' ∧ W'.cell? ⟨w0.heap.size, 3, none⟩ = some (.slice A l.length c) ∧ W'.cell? ⟨w1.heap.size, 0, none⟩ = some (.string m.name) ∧ W'.cell? ⟨w10.heap.size, 3, none⟩ = some (.slice A3 l3.length c3)) (first | with_reducible exact HC0.out | with_reducible exact HCD.out _ HC0.out | with_reducible exact HCS.out _ _ (by assumption) (by assumption) | with_reducible exact HCS.out _ _ HC0.out (by assumption) | with_reducible exact HCS.out _ _ (HCD.out _ HC0.out) (by assumption) | with_reducible exact HCS.out _ _ (HCD.out _ (by assumption)) (by assumption) | with_reducible exact HCD.out _ (by assumption) | with_reducible exact HCA.out _ _ (by assumption) | with_reducible exact HCA.out _ _ HC0.out | with_reducible exact HCA.out _ _ (HCD.out _ HC0.out) | with_reducible exact HCD.out _ (HCA.out _ _ (by assumption)) | with_reducible exact HCA.out _ _ (HCS.out _ _ HC0.out (by assumption)) | with_reducible exact HCA.out _ _ (HCS.out _ _ (HCD.out _ HC0.out) (by assumption)) | with_reducible exact HCX.out _ _ _ _ (Nat.le_refl _) (by assumption) | with_reducible exact HCX.out _ _ _ _ (Nat.le_refl _) (HCS.out _ _ (HCA.out _ _ HC0.out) (by assumption)) | with_reducible exact HCX.out _ _ _ _ (Nat.le_refl _) (HCS.out _ _ (HCD.out _ (HCA.out _ _ HC0.out)) (by assumption)) | with_reducible assumption | exact HC0.out | exact HCD.out _ HC0.out | exact HCS.out _ _ (by assumption) (by assumption) | exact HCS.out _ _ HC0.out (by assumption) | exact HCS.out _ _ (HCD.out _ HC0.out) (by assumption) | exact HCS.out _ _ (HCD.out _ (by assumption)) (by assumption) | exact HCD.out _ (by assumption) | exact HCA.out _ _ (by assumption) | exact HCA.out _ _ HC0.out | exact HCA.out _ _ (HCD.out _ HC0.out) | exact HCD.out _ (HCA.out _ _ (by assumption)) | exact HCA.out _ _ (HCS.out _ _ HC0.out (by assumption)) | exact HCA.out _ _ (HCS.out _ _ (HCD.out _ HC0.out) (by assumption)) | exact HCX.out _ _ _ _ (Nat.le_refl _) (by assumption) | exact HCX.out _ _ _ _ (Nat.le_refl _) (HCS.out _ _ (HCA.out _ _ HC0.out) (by assumption)) | exact HCX.out _ _ _ _ (Nat.le_refl _) (HCS.out _ _ (HCD.out _ (HCA.out _ _ HC0.out)) (by assumption)) | assumption) (first | (go_at_call 58; first | ((with_reducible refine (cA.out _ (HCL.out _ (by first | with_reducible assumption | with_reducible exact HCD.out _ HC0.out | with_reducible exact HCD.out _ (by assumption)))).mono ?_); rintro e w12 ⟨rfl, hb12⟩) | ((with_reducible refine (cB.out _ (HCL.out _ (by first | with_reducible assumption | with_reducible exact HCD.out _ HC0.out | with_reducible exact HCD.out _ (by assumption)))).mono ?_); rintro e w13 ⟨rfl, hb13⟩)))
      have hb13' := HCL.out w13 (by assumption)
      have HB13 := Lib.hid (HB11.out.trans (hb13'.mono HB11.out.size))
      have HT13 := Lib.hid (HT11.out.below hb13')
      have HMO13 := Lib.hid (HMO11.out.below hb13')
      have HR13 := Lib.hid (blk' hb13' HR11.out)
      have HM13 := Lib.hid (blk' hb13' HM11.out)
      have HP13 := Lib.hid (HP11.out.below hb13')
      have HA13 := Lib.hid (blk' hb13' HA11.out)
      have HV13 := Lib.hid (HV11.out.below hb13')
      have HE13 := Lib.hid (blk' hb13' HE11.out)
      have cS1 := Lib.hid (fun W (hb : Below w13.heap.size w13 W) => Size_any m W (HMO13.out.below hb))
      have cS2 := Lib.hid (fun W (hb : Below w13.heap.size w13 W) => Size_any y.m W ((HT13.out.2.each y HYM.out).below hb))
      rw [HE1.out, if_neg (by simp)] at cS1
      rw [HEM.out, if_neg (by simp)] at cS2
      have HRJ := Lib.hid (fun W (hb : Below w13.heap.size w13 W) => plc_at HT13.out.2.row hb j hjl)
      have HRQ := Lib.hid (fun W (hb : Below w13.heap.size w13 W) => plc_at HV13.out.2.row hb q hql)
      simp only [← HY.out] at HRJ
      obtain ⟨mm2, hmm2⟩ : ∃ mm2, mm2 = manyOf m := ⟨_, rfl⟩
      obtain ⟨oo, hoo⟩ : ∃ oo, oo = manyOf y.m := ⟨_, rfl⟩
      rw [← hmm2] at cS1 HLE
      rw [← hoo] at cS2 HLE
      have hjI : (j : Int) < l.length := by omega
      have hqI : (q : Int) < l3.length := by omega
      clear hb13' hb12 hb13 HC0 HCD HCS HCA HCX HCL cA cB hr1 hr2 hr3 hmm2 hoo n0 n1 n2 n3 n4 n5 n6 HEM
      clear r0 r1 r2 r3 rf0 rf1 rf2 rf3; clear x0 x1 x2 x3 xf0 xf1 xf2 xf3
      obtain ⟨n0, n1, n2, n3, n4, n5, n6⟩ := box_mod HM13.out
      go_wp2_with fail
      refine (cS1.out _ (Below.refl _ _)).mono ?_; rintro e w14 ⟨rfl, hb14⟩
      have HB14 := Lib.hid (HB13.out.trans (hb14.mono HB13.out.size))
      have HT14 := Lib.hid (HT13.out.below hb14)
      have HMO14 := Lib.hid (HMO13.out.below hb14)
      have HR14 := Lib.hid (blk' hb14 HR13.out)
      have HM14 := Lib.hid (blk' hb14 HM13.out)
      have HP14 := Lib.hid (HP13.out.below hb14)
      have HA14 := Lib.hid (blk' hb14 HA13.out)
      have HV14 := Lib.hid (HV13.out.below hb14)
      have HE14 := Lib.hid (blk' hb14 HE13.out)
      have HX14 := Lib.hid hb14
      clear hb14 cS1 n0 n1 n2 n3 n4 n5 n6
      obtain ⟨_, r0, r1, r2, r3, rf0, rf1, rf2, rf3⟩ := rgcells HR14.out
      obtain ⟨ad5, rfl, _, v0, v1, v2, v3, v4, v5, v6, v7⟩ := HRJ.out w14 HX14.out
      go_wp2_with fail
      refine (cS2.out _ HX14.out).mono ?_; rintro e w15 ⟨rfl, hb15⟩
      have HB15 := Lib.hid (HB14.out.trans (hb15.mono HB14.out.size))
      have HT15 := Lib.hid (HT14.out.below hb15)
      have HMO15 := Lib.hid (HMO14.out.below hb15)
      have HR15 := Lib.hid (blk' hb15 HR14.out)
      have HM15 := Lib.hid (blk' hb15 HM14.out)
      have HP15 := Lib.hid (HP14.out.below hb15)
      have HA15 := Lib.hid (blk' hb15 HA14.out)
      have HV15 := Lib.hid (HV14.out.below hb15)
      have HE15 := Lib.hid (blk' hb15 HE14.out)
      have HX15 := Lib.hid (HX14.out.trans (hb15.mono HX14.out.size))
      clear r0 r1 r2 r3 rf0 rf1 rf2 rf3
      clear hb15 cS2 v0 v1 v2 v3 v4 v5 v6 v7
      obtain ⟨_, r0, r1, r2, r3, rf0, rf1, rf2, rf3⟩ := rgcells HR15.out
      obtain ⟨_, x0, x1, x2, x3, xf0, xf1, xf2, xf3⟩ := rgcells HE15.out
      obtain ⟨_, ea, _, _, _, _, _, _, _, _, v7⟩ := HRJ.out w15 HX15.out
      obtain rfl := Option.some.inj ea
      obtain ⟨ad6, rfl, _, _, _, _, _, _, _, _, u7⟩ := HRQ.out w15 HX15.out
      by_cases t4 : oo < mm2
      · have t4' : decide (oo < mm2) = true := decide_eq_true t4
        clear t4
        go_wp2_with fail
        go_quiet (fail)
        go_wp2_with fail
        go_ret
        exact ⟨by simp, below_drewN HB15.out nq⟩
      · have t4' : decide (oo < mm2) = false := decide_eq_false t4
        rw [HLE.out (by omega)] at u7
        clear t4
        go_wp2_with fail
        go_quiet (fail)
        go_wp2_with fail
        go_ret
        exact ⟨by simp, below_drewN HB15.out nq⟩
    · have t3 : (F3 != 0) = true := by simp [t]
      have hl := (HS3.out.2 t).2
      obtain ⟨_, r0, r1, r2, r3, rf0, rf1, rf2, rf3⟩ := rgcells HE11.out
      rw [hl] at r3
      clear hl t
      simp only [List.length_nil] at r3
      go_wp2_with fail
      go_ret
      exact ⟨by simp, HB11.out⟩


set_option maxHeartbeats 0 in
theorem planSpace_closed : joinedFacts Tryz.prog 9 Tryz.f9 Rows.planSpaceSpec Rows.planSpaceRow = true := by
  unfold joinedFacts
  simp only [Bool.and_eq_true]
  and_intros
  · as_aux_lemma => kernel_rfl
  · exact Tryz.laidOut
  · exact Tryz.k_mapsRowed
  · as_aux_lemma => kernel_rfl
  · as_aux_lemma => kernel_rfl
  · as_aux_lemma => kernel_rfl
  · exact Tryz.k_stops
  · as_aux_lemma => kernel_rfl
  · exact Tryz.k_stopKnobs
  · as_aux_lemma => kernel_rfl
  · as_aux_lemma => kernel_rfl
  · as_aux_lemma => kernel_rfl
  · as_aux_lemma => kernel_rfl
  · as_aux_lemma => kernel_rfl
  · as_aux_lemma => kernel_rfl
  · as_aux_lemma => kernel_rfl
  · as_aux_lemma => kernel_rfl
  · as_aux_lemma => kernel_rfl
  · as_aux_lemma => kernel_rfl
  · as_aux_lemma => kernel_rfl
  · as_aux_lemma => kernel_rfl
  · as_aux_lemma => kernel_rfl
  · exact Tryz.k_plainKeys
  · as_aux_lemma => kernel_rfl
  · exact Tryz.k_stopsHeard
  · exact Tryz.k_mayEnter
  · exact Tryz.k_lifts
  · exact Tryz.k_make
  · as_aux_lemma => kernel_rfl
  · as_aux_lemma => kernel_rfl
  · as_aux_lemma => kernel_rfl
  · as_aux_lemma => kernel_rfl

set_option maxRecDepth 100000 in
theorem planSpace_lifted (os : Os) (started : os.Started) (H : Type) (enc : TypeId × Value → H) :
    ReturnsInHanded {} Tryz.checked os 9 .any (Rows.planSpaceSpec.pre6 enc Tryz.prog Tryz.f9 Rows.planSpaceRow.domain false) (Rows.planSpaceSpec.post enc Tryz.prog Tryz.f9 false true false false) := by
  refine returnsInHanded_of_change_sized (C := Tryz.checked) Tryz.own started (by kernel_rfl) Tryz.func9
    (ChangeSpec.witness6 (enc := enc) (C := Tryz.checked) false ⟨#[], #[.agg #[.int .i64 0, .int .i64 0, .slice none 0 0, .slice none 0 0], .agg #[.string ⟨#[]⟩, .int .i64 0, .int .i64 0, .string ⟨#[]⟩, .slice none 0 0, .slice none 0 0, .slice none 0 0]], []⟩ 8 (by kernel_rfl) (by kernel_rfl) (by kernel_rfl) (by kernel_rfl)) ?_
  intro W base args ds gs before hval0 hW hcnd hsz0 _
  have hval : ∀ (j : Nat) t v, Tryz.f9.params[j]? = some t → args[j]? = some v → Value.okWide Tryz.prog W .any base t v := hval0
  have hsz : (DataW.weightsEach Tryz.prog (Tryz.f9.params.toList ++ Rows.planSpaceSpec.plain.varTypes Tryz.prog) (ds ++ gs)).all (· ≤ reachBytes) = true := hsz0
  have hW' := hW
  obtain ⟨p, q, hA0, hV, rfl, hfz, hnd⟩ := hW
  have hA : DataW.TrodAll enc Tryz.prog W 0 (fun _ => true) true Tryz.f9.params.toList args.toList ds p := hA0
  rw [Tryz.params9] at hA hval hsz
  obtain ⟨v0, vs0, d0, ds0, p0, q0, hargs, rfl, rfl, h0, r0⟩ := trodAll_cons hA
  obtain ⟨v1, vs1, d1, ds1, p1, q1, rfl, rfl, rfl, h1, r1⟩ := trodAll_cons r0
  obtain ⟨rfl, rfl, rfl⟩ := trodAll_nil r1
  obtain rfl : args = #[v0, v1] := by cases args; simp_all
  obtain ⟨rfl, rfl⟩ := trodVars_none hV
  have ft0 := fits_each hsz (j := 0) rfl rfl
  obtain ⟨rK, rA, rL, rC, rfl, okk0, okl0⟩ := open_Registry (hval 0 39 v0 rfl rfl) h0 ft0
  have ft1 := fits_each hsz (j := 1) rfl rfl
  obtain ⟨m, rfl, ok1⟩ := open_Module (hval 1 75 v1 rfl rfl) h1 ft1
  refine (PlanSpace_any rK rA rL rC m W okk0 okl0 ok1).mono fun e W' ⟨he, hb⟩ => ?_
  subst he
  exact ⟨_, rfl, law_post Tryz.laidOut hW' rfl (by decide +kernel) rfl Tryz.underlying4 rfl rfl rfl hb⟩

theorem planSpace_holds : Rows.PlanSpaceSaid :=
  OpenClaim.holds_of_wide 9 Tryz.f9 rfl rfl rfl rfl rfl rfl rfl ⟨rfl, rfl, rfl, rfl, rfl⟩ rfl rfl rfl rfl rfl (by kernel_rfl) Tryz.func9 planSpace_closed
    (of_decide_eq_true (by kernel_rfl)) (by unfold Func.isWrapper; first | (rw [if_pos (by decide +kernel)]; kernel_rfl) | (rw [if_neg (by decide +kernel)]; exact ⟨rfl, rfl⟩))
    (fun os started H enc _ => planSpace_lifted os started H enc)
#print axioms planSpace_holds


end Go.Proofs.YtogckcjcebckgaaGreat

