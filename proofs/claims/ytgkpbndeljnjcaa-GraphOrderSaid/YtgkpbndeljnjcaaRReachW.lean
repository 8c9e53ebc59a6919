import Derived.Test.YtgkpbndeljnjcaaGrTabW
/- The document's table of ways (chapter E): shipfitterref.Reach walked. -/
namespace Go.Proofs.Ytgkpbndeljnjcaa
open Go.RowKit
open Gs (Tx)
open Gr (Tab)

theorem tabOf_eq (l : List Plc) : tM l.length (Tab.mk (dirN l) l.length) l.length = tabOf l := rfl

set_option maxHeartbeats 4000000 in
set_option maxRecDepth 100000 in
theorem Reach_any (A : Option Addr) (c : Nat) (l : List Plc) (w : World) (h : PlsOk w A l) (h8 : l.length ≤ 8) :
    Calls Try.prog 32 #[.slice A l.length c] w fun e w' => (∃ v, e = .returned v ∧ MatV w' w.heap.size v l.length (tabOf l)) ∧ Below w.heap.size w w' := by
  have HP := Lib.hid h
  clear h
  go_enter Try.func32, Try.ntmps32
  go_wp2_with fail
  go_loopw [3, 4] (fun v i wr => ∃ j : Nat, j ≤ l.length ∧ i = .int .i64 j ∧ Outer l w v j wr) (fun _ i _ => l.length - (intOf i).toNat)
  case atStart => exact ⟨0, by omega, rfl, Outer.start l w⟩
  case round =>
    obtain ⟨j, hj, rfl, hO⟩ := hrel
    have HO := Lib.hid hO
    obtain ⟨wo, hwo⟩ : ∃ wo : World, wo = wr := ⟨_, rfl⟩
    subst hwo
    clear hO
    by_cases hlt : j < l.length
    · have hlt' : (j : Int) < l.length := by omega
      go_wp2_with fail
      go_loopw [5, 6] (fun v5 i wr => ∃ k : Nat, k ≤ l.length ∧ i = .int .i64 k ∧ BR wr wo.heap.size v5 (rowN l j k) ∧ Below wo.heap.size wo wr) (fun _ i _ => l.length - (intOf i).toNat)
      case atStart => exact ⟨0, by omega, rfl, World.ownsRow_nil _ _ _ _, Below.refl _ _⟩
      case round =>
        obtain ⟨k, hk, rfl, hB, hb⟩ := hrel
        have HB := Lib.hid hB
        have HW := Lib.hid hb
        have hwz := hb.size
        by_cases hkl : k < l.length
        · have hkl' : (k : Int) < l.length := by omega
          have hD := Direct_any A c l j k wr (HP.out.below (HO.out.bel.trans (hb.mono HO.out.bel.size))) hlt hkl
          rw [← dirN_at hlt hkl] at hD
          have e1 := Lib.hid (rowN_succ l j k)
          have HL := Lib.hid (show (rowN l j k).length ≤ 1000000 by rw [rowN_length]; omega)
          generalize dirN l j k = d at *
          have c1 := Lib.hid hD
          clear hD hB hb
          go_wp2_with (first
            | (go_at_call 59; refine (c1.out).mono ?_; rintro e w3 ⟨rfl, hb3⟩
               have HB3 := Lib.hid (own_below HB.out hb3 (Nat.le_refl _))
               have HW3 := Lib.hid (HW.out.trans (hb3.mono hwz))
               have HZ3 := Lib.hid (Nat.le_trans hwz hb3.size)
               clear hb3)
            | (at_builtin; refine append_bool w3 rfl _ _ rfl wo.heap.size _ (rowN l j k) d rfl rfl (by exact HB3.out) HL.out HZ3.out ?_; intro v' w4 ht4 hb4
               have HB4 := Lib.hid ht4
               have HW4 := Lib.hid (HW3.out.trans hb4)
               clear ht4 hb4))
          go_roundw
          case rel => exact ⟨k + 1, by omega, by go_num, by rw [e1.out]; exact HB4.out, HW4.out⟩
          case measure => (simp [intOf]; try omega)
        · obtain rfl : k = l.length := by omega
          obtain ⟨g, cap, hv, _⟩ := (show wr.ownsRow wo.heap.size 4 1 _ l.length ((rowN l j l.length).map Value.bool) from by have := hB; unfold BR at this; rwa [rowN_length] at this).form (by omega)
          subst hv
          obtain ⟨R, C, ho, hr, hi1, hi2⟩ := HO.out.rows
          have HO1 := Lib.hid ho
          have HR1 := Lib.hid hr
          have HI1 := Lib.hid hi1
          have HI2 := Lib.hid hi2
          have HO2 := Lib.hid (own_below ho hb (Nat.le_refl _))
          have HZ := Lib.hid (Nat.le_trans HO.out.bel.size hwz)
          have HJ := Lib.hid (show j ≤ 1000000 by omega)
          clear hB hb ho hr hi1 hi2
          go_wp2_with (at_builtin; refine append_head wr rfl _ _ rfl w.heap.size _ l.length j R C _ rfl rfl rfl (by exact HO2.out) HJ.out HZ.out ?_; intro v' w4 ho4 hg4 hn4; have HO4 := Lib.hid ho4; have HG4 := Lib.hid hg4; have HN4 := Lib.hid hn4; clear ho4 hg4 hn4)
          go_roundw
          case rel => exact ⟨j + 1, by omega, by go_num, Outer.step HO.out.bel HO1.out HR1.out HI1.out HI2.out HW.out HB.out HO4.out HG4.out HN4.out⟩
          case measure => (simp [intOf]; try omega)
    · obtain rfl : j = l.length := by omega
      obtain ⟨A', c', rfl, hM⟩ := HO.out.mat
      have HBL := Lib.hid HO.out.bel
      by_cases hn : l.length = 0
      · have HN := Lib.hid hn
        clear hM hlt hn
        go_wp2_with fail
        go_loopw [7] (fun i wr => ∃ m : Nat, m ≤ l.length ∧ i = .int .i64 m ∧ Below w.heap.size w wr) (fun i _ => l.length - (intOf i).toNat)
        case atStart => exact ⟨0, by omega, rfl, HBL.out⟩
        case round =>
          obtain ⟨m, hm, rfl, hb⟩ := hrel
          obtain rfl : m = l.length := by have := HN.out; omega
          have HB := Lib.hid hb
          clear hb
          go_wp2_with fail
          go_ret
          exact ⟨⟨_, rfl, A', c', rfl, fun h => absurd HN.out (by omega)⟩, HB.out⟩
      · obtain ⟨O, R, C, rfl, hm0⟩ := hM (by omega)
        have HM0 := Lib.hid hm0
        have HE := Lib.hid (tabOf_eq l)
        clear hM hm0 hlt
        obtain ⟨t0, ht0⟩ : ∃ t0, t0 = Tab.mk (dirN l) l.length := ⟨_, rfl⟩
        rw [← ht0] at HM0 HE
        obtain ⟨n, hnl⟩ : ∃ n, n = l.length := ⟨_, rfl⟩
        clear ht0
        go_wp2_with fail
        go_loopw [7] (fun i wr => ∃ m : Nat, m ≤ l.length ∧ i = .int .i64 m ∧ Mat wr w.heap.size l.length O R C (tM l.length t0 m) ∧ Below w.heap.size w wr) (fun i _ => l.length - (intOf i).toNat)
        case atStart => exact ⟨0, by omega, rfl, HM0.out, HBL.out⟩
        case round =>
          obtain ⟨m, hm, rfl, hM1, hb1⟩ := hrel
          have HM1 := Lib.hid hM1
          have HB1 := Lib.hid hb1
          have TM := Lib.hid (tM_succ l.length t0 m)
          obtain ⟨w1, hw1⟩ : ∃ w1 : World, w1 = wr := ⟨_, rfl⟩
          subst hw1
          clear hM1 hb1
          by_cases hml : m < l.length
          · have hml' : (m : Int) < l.length := by omega
            generalize tM l.length t0 m = t1 at *
            go_wp2_with fail
            go_loopw [8] (fun i wr => ∃ q : Nat, q ≤ l.length ∧ i = .int .i64 q ∧ Mat wr w.heap.size l.length O R C (tI l.length m t1 q) ∧ Below w.heap.size w wr) (fun i _ => l.length - (intOf i).toNat)
            case atStart => exact ⟨0, by omega, rfl, HM1.out, HB1.out⟩
            case round =>
              obtain ⟨q, hq, rfl, hM2, hb2⟩ := hrel
              have HM2 := Lib.hid hM2
              have HB2 := Lib.hid hb2
              have TI := Lib.hid (tI_succ l.length m t1 q)
              obtain ⟨w2, hw2⟩ : ∃ w2 : World, w2 = wr := ⟨_, rfl⟩
              subst hw2
              clear hM2 hb2
              by_cases hql : q < l.length
              · have hql' : (q : Int) < l.length := by omega
                generalize tI l.length m t1 q = t2 at *
                go_wp2_with fail
                go_loopw [9] (fun i wr => ∃ k : Nat, k ≤ l.length ∧ i = .int .i64 k ∧ Mat wr w.heap.size l.length O R C (tK m q t2 k) ∧ Below w.heap.size w wr) (fun i _ => l.length - (intOf i).toNat)
                case atStart => exact ⟨0, by omega, rfl, HM2.out, HB2.out⟩
                case round =>
                  obtain ⟨k, hk, rfl, hM3, hb3⟩ := hrel
                  have HM3 := Lib.hid hM3
                  have HB3 := Lib.hid hb3
                  have TK := Lib.hid (tK_succ m q t2 k)
                  clear hM3 hb3
                  by_cases hkl : k < l.length
                  · have hkl' : (k : Int) < l.length := by omega
                    generalize tK m q t2 k = t3 at *
                    have a1 := HM3.out.row q hql
                    have a2 := HM3.out.cell q k hql hkl
                    have a3 := HM3.out.cell q m hql hml
                    have a4 := HM3.out.row m hml
                    have a5 := HM3.out.cell m k hml hkl
                    have a6 := HM3.out.free q k hql hkl
                    have HO3 := Lib.hid (HM3.out.off q hql)
                    have HF := Lib.hid (fun v hv => HM3.out.fill (m := m) hql hkl (v := v) hv)
                    obtain ⟨Rq, hRq⟩ : ∃ Rq, Rq = R q := ⟨_, rfl⟩
                    obtain ⟨Rm, hRm⟩ : ∃ Rm, Rm = R m := ⟨_, rfl⟩
                    rw [← hRq] at a1 a2 a3 a6 HO3 HF
                    rw [← hRm] at a4 a5
                    obtain ⟨b1, hb1⟩ : ∃ b1, b1 = t3.at q k := ⟨_, rfl⟩
                    obtain ⟨b2, hb2⟩ : ∃ b2, b2 = t3.at q m := ⟨_, rfl⟩
                    obtain ⟨b3, hb3⟩ : ∃ b3, b3 = t3.at m k := ⟨_, rfl⟩
                    rw [← hb1] at a2 HF
                    rw [← hb2] at a3 HF
                    rw [← hb3] at a5 HF
                    clear hb1 hb2 hb3 hRq hRm
                    go_wp2_with fail
                    cases b1
                    · cases b2
                      · go_big_region
                        go_wp2_with fail
                        go_roundw
                        case rel => exact ⟨k + 1, by omega, by go_num, by rw [TK.out]; exact (HF.out false (by simp)).drew, (HB3.out.setCell (p := ⟨Rq, k, none⟩) HO3.out.2 _).drew⟩
                        case measure => (simp [intOf]; try omega)
                      · cases b3
                        · go_big_region
                          go_wp2_with fail
                          go_roundw
                          case rel => exact ⟨k + 1, by omega, by go_num, by rw [TK.out]; exact (HF.out false (by simp)).drew, (HB3.out.setCell (p := ⟨Rq, k, none⟩) HO3.out.2 _).drew⟩
                          case measure => (simp [intOf]; try omega)
                        · go_big_region
                          go_wp2_with fail
                          go_roundw
                          case rel => exact ⟨k + 1, by omega, by go_num, by rw [TK.out]; exact (HF.out true (by simp)).drew, (HB3.out.setCell (p := ⟨Rq, k, none⟩) HO3.out.2 _).drew⟩
                          case measure => (simp [intOf]; try omega)
                    · go_big_region
                      go_wp2_with fail
                      go_roundw
                      case rel => exact ⟨k + 1, by omega, by go_num, by rw [TK.out]; exact (HF.out true (by simp)).drew, (HB3.out.setCell (p := ⟨Rq, k, none⟩) HO3.out.2 _).drew⟩
                      case measure => (simp [intOf]; try omega)
                  · obtain rfl : k = l.length := by omega
                    go_wp2_with fail
                    go_roundw
                    case rel => exact ⟨q + 1, by omega, by go_num, by rw [TI.out]; exact HM3.out, HB3.out⟩
                    case measure => (simp [intOf]; try omega)
              · obtain rfl : q = l.length := by omega
                go_wp2_with fail
                go_roundw
                case rel => exact ⟨m + 1, by omega, by go_num, by rw [TM.out]; exact HM2.out, HB2.out⟩
                case measure => (simp [intOf]; try omega)
          · obtain rfl : m = l.length := by omega
            go_wp2_with fail
            go_ret
            exact ⟨⟨_, rfl, _, _, rfl, fun _ => ⟨O, R, C, rfl, by rw [← HE.out]; exact HM1.out⟩⟩, HB1.out⟩

end Go.Proofs.Ytgkpbndeljnjcaa
