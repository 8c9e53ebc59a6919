import Derived.Test.YtogckcjcebckgaaGreatKPlanThere

namespace Go.Proofs.YtogckcjcebckgaaGreat
open Go.RowKit Go.Lib

set_option maxHeartbeats 4000000 in
set_option maxRecDepth 100000 in
theorem others_any (k k' : Krn) (A A' : Option Addr) (c c' : Nat) (l s : List Plc) (nm : ByteArray) (w : World) (h : PlsOk w A l) (hs : PlsOk w A' s) (hn : (txs s).Nodup) (ho : OthersIn l s nm) (h8 : l.length ≤ 1000) :
    Calls Tryz.prog 55 #[rgV k A l c, rgV k' A' s c', .string nm] w fun e w' => e = .returned (.bool true) ∧ Below w.heap.size w w' := by
  obtain ⟨w0, e0⟩ : ∃ w0, w0 = w := ⟨_, rfl⟩
  have HB0 := Lib.hid (show Below w.heap.size w w0 from e0 ▸ Below.refl _ _)
  have HT0 := Lib.hid (show PlsOk w0 A l from e0 ▸ h)
  have HU0 := Lib.hid (show PlsOk w0 A' s from e0 ▸ hs)
  subst e0
  obtain ⟨w1, hw1⟩ : ∃ w1, w1 = w0.alloc (.cells #[.int .i64 k.major, .int .i64 k.minor, .slice k.eA k.ex.length k.eC, .slice A l.length c] 39) := ⟨_, rfl⟩
  have hb1 : Below w0.heap.size w0 w1 := hw1 ▸ (Below.refl _ _).alloc (Nat.le_refl _) _
  have HB1 := Lib.hid (HB0.out.trans (hb1.mono HB0.out.size))
  have HT1 := Lib.hid (HT0.out.below hb1)
  have HU1 := Lib.hid (HU0.out.below hb1)
  have HR1 := Lib.hid (show w1.heap[w0.heap.size]? = some (.cells #[.int .i64 k.major, .int .i64 k.minor, .slice k.eA k.ex.length k.eC, .slice A l.length c] 39 (0, 0)) by rw [hw1]; exact heap_alloc_new w0 _)
  have HSZ1 := Lib.hid (show w1.heap.size = w0.heap.size + 1 by rw [hw1]; simp)
  have hw1' := hw1.symm
  clear hw1 hb1
  obtain ⟨w2, hw2⟩ : ∃ w2, w2 = w1.alloc (.cells #[.int .i64 k'.major, .int .i64 k'.minor, .slice k'.eA k'.ex.length k'.eC, .slice A' s.length c'] 39) := ⟨_, rfl⟩
  have hb2 : Below w1.heap.size w1 w2 := hw2 ▸ (Below.refl _ _).alloc (Nat.le_refl _) _
  have hneRS := Lib.hid (Nat.ne_of_lt (Array.getElem?_eq_some_iff.1 HR1.out).1)
  have HB2 := Lib.hid (HB1.out.trans (hb2.mono HB1.out.size))
  have HT2 := Lib.hid (HT1.out.below hb2)
  have HU2 := Lib.hid (HU1.out.below hb2)
  have HR2 := Lib.hid (blk' hb2 HR1.out)
  have HS2 := Lib.hid (show w2.heap[w1.heap.size]? = some (.cells #[.int .i64 k'.major, .int .i64 k'.minor, .slice k'.eA k'.ex.length k'.eC, .slice A' s.length c'] 39 (0, 0)) by rw [hw2]; exact heap_alloc_new w1 _)
  have HSZ2 := Lib.hid (show w2.heap.size = w1.heap.size + 1 by rw [hw2]; simp)
  have hw2' := hw2.symm
  clear hw2 hb2
  have HO := Lib.hid (fun (x : Plc) (hx : x ∈ l) (hne : x.m.name ≠ nm) => find_like hn (ho x hx hne))
  have HPL := Lib.hid (fun W (hb : Below w2.heap.size w2 W) (x : ByteArray) => PlaceOf_any A' c' s x W (HU2.out.below hb).row (HU2.out.below hb).len)
  have HB2b := Lib.hid (Below.refl w2.heap.size w2)
  clear h hs hn ho
  go_enter Tryz.func55, Tryz.ntmps55
  go_wp2_with fail
  go_loopw [7] (fun i wr => ∃ q : Nat, q ≤ l.length ∧ i = .int .i64 q ∧ Below w2.heap.size w2 wr) (fun i _ => l.length - (intOf i).toNat)
  case atStart => exact ⟨0, by omega, rfl, Below.refl _ _⟩
  case round =>
    obtain ⟨q, hq, rfl, hb⟩ := hrel
    have HQ := Lib.hid hb
    have HBr := Lib.hid (HB2.out.trans (hb.mono HB2.out.size))
    have HTr := Lib.hid (HT2.out.below hb)
    have HUr := Lib.hid (HU2.out.below hb)
    have HRr := Lib.hid (blk' hb HR2.out)
    have HSr := Lib.hid (blk' hb HS2.out)
    obtain ⟨_, r0, r1, r2, r3, _⟩ := rgcells HRr.out
    by_cases hlt : q < l.length
    · have hlt' : (q : Int) < l.length := by omega
      obtain ⟨ad, rfl, hab, p0, p1, p2, p3, p4, p5, p6, p7⟩ := plc_at HTr.out.row (Below.refl _ _) q hlt
      have hxm := HTr.out.each l[q] (List.getElem_mem _)
      have hox := HO.out l[q] (List.getElem_mem _)
      obtain ⟨y, hy⟩ : ∃ y, y = l[q]'hlt := ⟨_, rfl⟩
      simp only [← hy] at p0 p1 p2 p3 p4 p5 p6 p7 hxm hox
      have HYO := Lib.hid hxm
      have HOX := Lib.hid hox
      clear hy hxm hox hb
      obtain ⟨w3, hw3⟩ : ∃ w3, w3 = wr.alloc (.cells #[.string y.m.name, .int .i64 y.m.major, .int .i64 y.m.minor, .string y.m.text, .slice y.m.eA y.m.ex.length y.m.eC, .slice y.m.iA y.m.im.length y.m.iC, .slice y.m.pA y.m.pa.length y.m.pC, .int .i64 y.first] 77) := ⟨_, rfl⟩
      have hb3 : Below wr.heap.size wr w3 := hw3 ▸ (Below.refl _ _).alloc (Nat.le_refl _) _
      obtain ⟨f0, f1, f2, f3, f4, f5, f6, f7, hz3, _⟩ := box8 hw3
      have HX3 := Lib.hid (show w3.heap[wr.heap.size]? = some (.cells (plcA y) 77 (0, 0)) by rw [hw3]; exact heap_alloc_new wr _)
      have HB3 := Lib.hid (HBr.out.trans (hb3.mono HBr.out.size))
      have HT3 := Lib.hid (HTr.out.below hb3)
      have HU3 := Lib.hid (HUr.out.below hb3)
      have HR3 := Lib.hid (blk' hb3 HRr.out)
      have HS3 := Lib.hid (blk' hb3 HSr.out)
      have HQ3 := Lib.hid (HQ.out.trans (hb3.mono HQ.out.size))
      have hw3' := hw3.symm
      obtain ⟨_, s0, s1, s2, s3, _⟩ := rgcells HS3.out
      have cP := Lib.hid (HPL.out w3 HQ3.out y.m.name)
      have HYO3 := Lib.hid (HYO.out.below hb3)
      clear hw3 hb3 hz3
      go_wp2_with fail
      refine (cP.out).mono ?_; rintro e w4 ⟨rfl, hb4⟩
      have HB4 := Lib.hid (HB3.out.trans (hb4.mono HB3.out.size))
      have HT4 := Lib.hid (HT3.out.below hb4)
      have HU4 := Lib.hid (HU3.out.below hb4)
      have HR4 := Lib.hid (blk' hb4 HR3.out)
      have HS4 := Lib.hid (blk' hb4 HS3.out)
      have HQ4 := Lib.hid (HQ3.out.trans (hb4.mono HQ3.out.size))
      have HX4 := Lib.hid (blk' hb4 HX3.out)
      have HYO4 := Lib.hid (HYO3.out.below hb4)
      have hxl := (Array.getElem?_eq_some_iff.1 HX4.out).1
      have g0 := heap_cell HX4.out 0
      have g1 := heap_cell HX4.out 1
      have g2 := heap_cell HX4.out 2
      have g3 := heap_cell HX4.out 3
      have g4 := heap_cell HX4.out 4
      have g5 := heap_cell HX4.out 5
      have g6 := heap_cell HX4.out 6
      have g7 := heap_cell HX4.out 7
      simp only [List.getElem?_toArray, List.getElem?_cons_zero, List.getElem?_cons_succ] at g0 g1 g2 g3 g4 g5 g6 g7
      obtain ⟨_, t0, t1, t2, t3, _⟩ := rgcells HS4.out
      clear hb4 cP f0 f1 f2 f3 f4 f5 f6 f7 s0 s1 s2 s3 p0 p1 p2 p3 p4 p5 p6 p7 r0 r1 r2 r3 hab
      by_cases hnm : y.m.name = nm
      · have e1 := str_eq hnm
        clear hnm
        go_wp2_with fail
        go_quiet (fail)
        have HQ5 := Lib.hid (below_drewN HQ4.out nq)
        go_wp2_with fail
        go_roundw
        case rel => exact ⟨q + 1, by omega, by go_num, HQ5.out⟩
        case measure => (simp [intOf]; try omega)
      · have e1 := str_ne hnm
        obtain ⟨j, hj, hix, hfi, hba⟩ := HOX.out hnm
        rw [hix]
        obtain ⟨bd, rfl, hbb, v0, v1, v2, v3, v4, v5, v6, v7⟩ := plc_at HU4.out.row (Below.refl _ _) j hj
        have hzm := HU4.out.each s[j] (List.getElem_mem _)
        obtain ⟨z, hz⟩ : ∃ z, z = s[j]'hj := ⟨_, rfl⟩
        simp only [← hz] at v0 v1 v2 v3 v4 v5 v6 v7 hfi hba hzm
        have cS := Lib.hid (fun W (hb : Below w4.heap.size w4 W) => SameModule_any z.m y.m W (bare_sameC hba) (hzm.below hb) (HYO4.out.below hb))
        rw [hfi] at v7
        have hj0 : (0 : Int) ≤ j := by omega
        have hj' : (j : Int) < s.length := by omega
        have hjn : decide ((j : Int) < 0) = false := decide_eq_false (by omega)
        clear hnm hix hfi hba hzm hz
        go_wp2_with fail
        go_region_law (first | (go_simp; go_at_call 44; (with_reducible refine (cS.out _ (by first | with_reducible exact (Below.refl _ _).drew | with_reducible exact Below.refl _ _)).mono ?_); rintro e w5 ⟨rfl, hb5⟩; have HQ5 := Lib.hid (HQ4.out.drew.trans (hb5.mono HQ4.out.size)); clear hb5))
        all_goals (
          go_wp2_with fail
          go_roundw
          case rel => exact ⟨q + 1, by omega, by go_num, HQ5.out⟩
          case measure => (simp [intOf]; try omega))
    · clear hb
      go_wp2_with fail
      go_ret
      exact ⟨rfl, HBr.out⟩

end Go.Proofs.YtogckcjcebckgaaGreat
