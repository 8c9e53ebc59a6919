import Derived.Test.YtdpacbdejfjkcaaFitW
/- The document's FreeOf: sector by sector. -/
namespace Go.Proofs.Ytdpacbdejfjkcaa
open Go.RowKit

/-- a block of 16 bools that reads as u -/
def Bits (w : World) (b : Nat) (u : Nat → Bool) : Prop := ∀ k, k < 16 → w.cell? ⟨b, k, none⟩ = some (.bool (u k)) ∧ w.frozen? ⟨b, k, none⟩ = false
theorem Bits.below {w w' : World} {b B : Nat} {u : Nat → Bool} (h : Bits w b u) (hb : Below B w w') (hB : b < B) : Bits w' b u := fun k hk => ⟨(hb.cell (p := ⟨b, k, none⟩) hB).trans (h k hk).1, (hb.frozen (p := ⟨b, k, none⟩) hB).trans (h k hk).2⟩
theorem Bits.congr {w : World} {b : Nat} {u u' : Nat → Bool} (h : Bits w b u) (e : ∀ k, k < 16 → u k = u' k) : Bits w b u' := fun k hk => by rw [← e k hk]; exact h k hk
theorem Bits.set {w : World} {b : Nat} {u : Nat → Bool} (h : Bits w b u) (i : Nat) (hi : i < 16) (v : Bool) : Bits (w.setCell ⟨b, i, none⟩ (.bool v)) b (fun k => if k = i then v else u k) := fun k hk => by
  refine ⟨?_, by rw [World.frozen?_setCell]; exact (h k hk).2⟩
  by_cases e : k = i
  · subst e
    simp only [if_pos]
    exact World.cell?_setCell_same' _ _ _ (by rw [(h k hk).1]; rfl)
  · simp only [if_neg e]
    rw [World.cell?_setCell_other _ _ _ _ (by intro h2; injection h2 with _ h3 _; exact e h3.symm)]
    exact (h k hk).1

theorem bits_zero (w : World) (t : TypeId) : Bits (w.alloc (.cells #[.bool false, .bool false, .bool false, .bool false, .bool false, .bool false, .bool false, .bool false, .bool false, .bool false, .bool false, .bool false, .bool false, .bool false, .bool false, .bool false] t)) w.heap.size (usedIn []) := fun k hk => by
  refine ⟨?_, by unfold World.frozen?; rw [show (w.alloc _).heap[(⟨w.heap.size, k, none⟩ : Addr).block]? = _ from heap_alloc_new w _]; simp⟩
  rw [World.cell?_alloc_new]
  show _ = some (Value.bool false)
  match k, hk with
  | 0, _ | 1, _ | 2, _ | 3, _ | 4, _ | 5, _ | 6, _ | 7, _ | 8, _ | 9, _ | 10, _ | 11, _ | 12, _ | 13, _ | 14, _ | 15, _ => rfl
  | k + 16, h => exact absurd h (by omega)
theorem used_take {l : List Plc} {j : Nat} (h : j < l.length) (i : Nat) : usedIn (l.take (j + 1)) i = (usedIn (l.take j) i || (decide (l[j].first ≤ i) && decide ((i : Int) < endOf l[j]))) := by
  unfold usedIn
  rw [List.take_succ_eq_append_getElem h, List.any_append]
  simp

theorem RunOwn.last {w : World} {base : Nat} {A : Option Addr} {K c : Nat} {pre : List Run} {r : Run} (h : RunOwn w base (.slice A K c) (pre ++ [r])) :
    ∃ g, A = some ⟨g, 0, none⟩ ∧ base ≤ g ∧ w.cell? ⟨g, pre.length * 2 + 1, none⟩ = some (.int .i64 r.many) ∧ w.frozen? ⟨g, pre.length * 2 + 1, none⟩ = false ∧
      ∀ m, RunOwn (w.setCell ⟨g, pre.length * 2 + 1, none⟩ (.int .i64 m)) base (.slice A K c) (pre ++ [⟨r.first, m⟩]) := by
  have hlen : (pre ++ [r]).length = pre.length + 1 := by simp
  have hfl : (pre.flatMap Run.cells).length = pre.length * 2 := flat_length (enc := Run.cells) (k := 2) (fun _ => rfl) pre
  obtain ⟨h1, h2⟩ := h
  rcases h2 with ⟨_, h0⟩ | ⟨g, cap, cur, hv, hg, hb, hnc, hcm, hsz, htk⟩
  · rw [hlen] at h0; omega
  injection hv with ha hk hc
  subst ha
  have hcs : cur.toList[pre.length * 2 + 1]? = some (.int .i64 r.many) := by
    have : (cur.toList.take ((pre ++ [r]).length * 2))[pre.length * 2 + 1]? = some (.int .i64 r.many) := by
      rw [htk, List.flatMap_append, List.getElem?_append_right (by omega), hfl, show pre.length * 2 + 1 - pre.length * 2 = 1 by omega]; rfl
    rwa [List.getElem?_take_of_lt (by rw [hlen]; omega)] at this
  have hcell : w.cell? ⟨g, pre.length * 2 + 1, none⟩ = some (.int .i64 r.many) := by
    simp only [World.cell?, hb]
    simpa using hcs
  refine ⟨g, rfl, hg, hcell, frozen_of_row _ _ _ _ _ hb, fun m => ?_⟩
  refine ⟨by simp [List.flatMap_append, hfl, Run.cells]; omega, .inr ⟨g, cap, cur.setIfInBounds (pre.length * 2 + 1) (.int .i64 m), ?_, hg, heap_setCell_same w g _ cur _ _ hb, ?_, hcm, by simpa using hsz, ?_⟩⟩
  · rw [← hc, hk]; simp
  · simpa using hnc
  · rw [Array.toList_setIfInBounds, List.take_set, show (pre ++ [(⟨r.first, m⟩ : Run)]).length = (pre ++ [r]).length by simp, htk, List.flatMap_append, List.flatMap_append, List.set_append_right _ _ (by omega), hfl, show pre.length * 2 + 1 - pre.length * 2 = 1 by omega]
    rfl

set_option maxHeartbeats 4000000 in
set_option maxRecDepth 100000 in
theorem FreeOf_any (A : Option Addr) (c : Nat) (l : List Plc) (w : World) (h : PlsOk w A l) (hr : regErr l = 0) :
    Calls Try.prog 17 #[.slice A l.length c] w fun e w' => (∃ (A' : Option Addr) (c' : Nat), e = .returned (.slice A' (runsOf l).length c') ∧ RunRow w' A' (runsOf l)) ∧ Below w.heap.size w w' := by
  have h8 := (reg_row hr).1
  have HP := Lib.hid h
  have HALL := Lib.hid (show ∀ x ∈ l, x.m.text.size ≤ 256 ∧ 0 ≤ x.first ∧ x.first ≤ 16 ∧ 1 ≤ manyOf x.m ∧ endOf x ≤ 16 from fun x hx => by
    obtain ⟨h1, h2⟩ := (reg_row hr).2.1 x hx
    have h3 := many_ok h1
    simp only [regQ, Bool.and_eq_true, decide_eq_true_eq] at h2
    unfold endOf
    exact ⟨(modErr_facts h1).2.2.1, by omega⟩)
  have HB0 := Lib.hid (bits_zero w 78)
  have HRUN := Lib.hid (freeUpto_runsOf (reg_row hr).2.2)
  obtain ⟨R, hRR⟩ : ∃ R, R = runsOf l := ⟨_, rfl⟩
  rw [← hRR] at HRUN ⊢
  clear h hr hRR
  go_enter Try.func17, Try.ntmps17
  go_wp2_with fail
  go_loopw [4] (fun i wr => ∃ (j : Nat), j ≤ l.length ∧ i = .int .i64 j ∧ Bits wr w.heap.size (usedIn (l.take j)) ∧ Below w.heap.size w wr) (fun i _ => l.length - (intOf i).toNat)
  case atStart => exact ⟨0, by omega, rfl, HB0.out, (Below.refl _ _).alloc (Nat.le_refl _) _⟩
  case round =>
    obtain ⟨j, hj, rfl, hbits, hb⟩ := hrel
    have HB := Lib.hid hb
    have HI := Lib.hid hbits
    have hBw : w.heap.size < wr.heap.size := by
      have := (hbits 0 (by omega)).1
      exact block_lt_of_cell this
    clear hbits
    by_cases hlt : j < l.length
    · have hlt' : (j : Int) < l.length := by omega
      obtain ⟨f1, f2, f3, f4, f5⟩ := HALL.out (l[j]'hlt) (List.getElem_mem _)
      have hU := Lib.hid (used_take hlt)
      have HROW := Lib.hid (fun (W : World) (hbW : Below w.heap.size w W) => plc_at HP.out.row hbW j hlt)
      obtain ⟨y, hy⟩ : ∃ y, y = l[j]'hlt := ⟨_, rfl⟩
      rw [← hy] at f1 f2 f3 f4 f5 hU HROW
      obtain ⟨f, hf⟩ : ∃ f : Nat, y.first = f := ⟨y.first.toNat, by omega⟩
      obtain ⟨M, hM⟩ : ∃ M : Nat, manyOf y.m = M := ⟨(manyOf y.m).toNat, by omega⟩
      have he : endOf y = y.first + manyOf y.m := rfl
      have hfm : f + M ≤ 16 := by omega
      have cS := Lib.hid (fun W => SizeOf_any y.m W (by unfold big; omega))
      rw [hM] at cS
      have hU2 := Lib.hid (show ∀ i : Nat, usedIn (l.take (j + 1)) i = (usedIn (l.take j) i || (decide (f ≤ i) && decide (i < f + M))) from fun i => by rw [hU.out i, hf, show endOf y = ((f + M : Nat) : Int) by omega]; congr 2 <;> simp <;> omega)
      have HF := Lib.hid hf
      clear he f1 f2 f3 f4 f5 hU hy hM hb hf
      go_wp2_with fail
      go_loopw [5] (fun i wr2 => ∃ (k : Nat), k ≤ M ∧ i = .int .i64 k ∧ Bits wr2 w.heap.size (fun i => usedIn (l.take j) i || (decide (f ≤ i) && decide (i < f + k))) ∧ Below w.heap.size w wr2) (fun i _ => M - (intOf i).toNat)
      case atStart => exact ⟨0, by omega, rfl, HI.out.congr (fun k _ => by simp; omega), HB.out⟩
      case round =>
        obtain ⟨k, hk, rfl, hbits2, hb2⟩ := hrel
        have HB2 := Lib.hid hb2
        have HI2 := Lib.hid hbits2
        have hBw2 : w.heap.size < wr.heap.size := block_lt_of_cell (hbits2 0 (by omega)).1
        clear hbits2
        obtain ⟨ad, rfl, hab, h0, h1, h2, h3, h4, h5, h6, h7⟩ := HROW.out wr HB2.out
        by_cases hkm : k < M
        · have hkm' : (k : Int) < M := by omega
          obtain ⟨s, hs⟩ : ∃ s, s = f + k := ⟨_, rfl⟩
          have q1 : IntKind.i64.wrap (y.first + (k : Int)) = (s : Int) := by rw [HF.out, IntWalk.i64_in _ (by omega)]; omega
          have hs16 : (s : Int) < 16 := by omega
          have hs0 : (0 : Int) ≤ (s : Int) := by omega
          have HSK := Lib.hid hs
          clear hs
          go_wp2_with (go_at_call 16; refine (cS.out _).mono ?_; rintro e w3 ⟨rfl, hb3⟩; have hb3' := hb3.mono (show w.heap.size + 1 ≤ wr.heap.size by omega); obtain ⟨p0, p1⟩ := (HI2.out.below hb3' (by omega)) s (by omega); obtain ⟨ad', e', _, k0, k1, k2, k3, k4, k5, k6, k7⟩ := HROW.out w3 (HB2.out.trans (hb3'.mono (by omega))); obtain rfl := Option.some.inj e'; have hz3 := hb3.size)
          go_roundw
          case rel =>
            refine ⟨k + 1, by omega, by go_num, ?_, ((HB2.out.trans (hb3'.mono (by omega))).setCell (by simp) _)⟩
            refine ((HI2.out.below hb3' (by omega)).set s (by omega) true).congr fun i _ => ?_
            have := HSK.out
            by_cases hi : i = s
            · rw [if_pos hi]; simp; omega
            · rw [if_neg hi]
              congr 1
              rw [Bool.eq_iff_iff]
              simp; omega
          case measure => (simp [intOf]; try omega)
        · have hkm' : decide ((k : Int) < M) = false := by simp; omega
          have HKM := Lib.hid (show k = M by omega)
          go_wp2_with (go_at_call 16; refine (cS.out _).mono ?_; rintro e w3 ⟨rfl, hb3⟩; have hb3' := hb3.mono (show w.heap.size + 1 ≤ wr.heap.size by omega))
          go_roundw
          case rel =>
            refine ⟨j + 1, by omega, by go_num, ?_, HB2.out.trans (hb3'.mono (by omega))⟩
            refine (HI2.out.below hb3' (by omega)).congr fun i _ => ?_
            rw [hU2.out i, HKM.out]
          case measure => (simp [intOf]; try omega)
    · have e0 : l.take j = l := List.take_of_length_le (by omega)
      rw [e0] at HI
      obtain ⟨u, hu⟩ : ∃ u, u = usedIn l := ⟨_, rfl⟩
      rw [← hu] at HI HRUN
      have hlt' : decide ((j : Int) < l.length) = false := by simp; omega
      clear e0 hu hb HALL HB0
      go_wp2_with fail
      go_loopw [6, 7] (fun v i wr => ∃ (n : Nat), n ≤ 16 ∧ i = .int .i64 n ∧ Bits wr w.heap.size u ∧ RunOwn wr (w.heap.size + 1) v (freeUpto u n) ∧ (freeUpto u n).length ≤ n ∧ Below w.heap.size w wr) (fun _ i _ => 16 - (intOf i).toNat)
      case atStart => exact ⟨0, by omega, rfl, HI.out, RunOwn.nil _ _, by simp [freeUpto], HB.out⟩
      case round =>
        obtain ⟨n, hn, rfl, hbits2, hown, hln, hb2⟩ := hrel
        have HB2 := Lib.hid hb2
        have HI2 := Lib.hid hbits2
        have hBw2 : w.heap.size < wr.heap.size := block_lt_of_cell (hbits2 0 (by omega)).1
        obtain ⟨K, hK⟩ : ∃ K, K = (freeUpto u n).length := ⟨_, rfl⟩
        have hown' := hown
        unfold RunOwn at hown'
        rw [← hK] at hln hown'
        obtain ⟨vA, vc, rfl⟩ := own_form hown'
        have HO := Lib.hid hown
        have HK := Lib.hid hK
        clear hbits2 hown hown' hb2 hK
        by_cases hn16 : n < 16
        · have hn16' : (n : Int) < 16 := by omega
          obtain ⟨p0, p1⟩ := HI2.out n hn16
          obtain ⟨b, hb⟩ : ∃ b, b = u n := ⟨_, rfl⟩
          rw [← hb] at p0
          cases b
          · by_cases hn0 : 0 < n
            · have hn0' : (0 : Int) < n := by omega
              obtain ⟨k, hk⟩ : ∃ k, n = k + 1 := ⟨n - 1, by omega⟩
              have hk16 : k < 16 := by omega
              have q1 : IntKind.i64.wrap ((n : Int) - 1) = k := by rw [IntWalk.i64_in _ (by omega)]; omega
              have hk0 : (0 : Int) ≤ k := by omega
              have hk1 : (k : Int) < 16 := by omega
              obtain ⟨m0, m1⟩ := HI2.out k hk16
              obtain ⟨b2, hb2⟩ : ∃ b2, b2 = u k := ⟨_, rfl⟩
              rw [← hb2] at m0
              cases b2
              · have hprev : 0 < n ∧ u (n - 1) = false := ⟨hn0, by rw [show n - 1 = k by omega]; exact hb2.symm⟩
                have e1 := freeUpto_more hb.symm hprev
                obtain ⟨pre, r, e2, e3, e4⟩ := freeUpto_last hprev.1 hprev.2
                rw [e2, bump_last] at e1
                have HE1 := Lib.hid e1
                have hown := HO.out
                have hK2 : K = pre.length + 1 := by rw [HK.out, e2]; simp
                rw [e2] at hown
                obtain ⟨g, hvA, hg, t0, t1, t2⟩ := RunOwn.last hown
                subst hvA
                obtain ⟨p, hp⟩ : ∃ p, p = pre.length := ⟨_, rfl⟩
                rw [← hp] at t0 t1 t2 hK2
                have q2 : IntKind.i64.wrap ((K : Int) - 1) = p := by rw [IntWalk.i64_in _ (by omega)]; omega
                have q3 : (p : Int) < K := by omega
                have q4 : (0 : Int) ≤ p := by omega
                have q5 : IntKind.i64.wrap (r.many + 1) = r.many + 1 := IntWalk.i64_in _ (by omega)
                have T2 := Lib.hid (t2 (r.many + 1))
                have HLN := Lib.hid (show (pre ++ [(⟨r.first, r.many + 1⟩ : Run)]).length ≤ n + 1 by simp; omega)
                clear hb hb2 hk e1 e2 e3 e4 hown hK2 hp t2 hprev
                go_wp2_with fail
                go_roundw
                case rel => exact ⟨n + 1, by omega, by go_num, fun i hi => ⟨(World.cell?_setCell_other _ _ _ _ (by intro h2; injection h2 with h3 _ _; omega)).trans (HI2.out i hi).1, by rw [World.frozen?_setCell]; exact (HI2.out i hi).2⟩, by rw [HE1.out]; exact T2.out, by rw [HE1.out]; exact HLN.out, HB2.out.setCell (by simp; omega) _⟩
                case measure => (simp [intOf]; try omega)
              · have hprev : ¬ (0 < n ∧ u (n - 1) = false) := fun h => by have := h.2; rw [show n - 1 = k by omega, ← hb2] at this; cases this
                have e1 := Lib.hid (freeUpto_new hb.symm hprev)
                clear hb hb2 hk hprev
                go_wp2_with (at_builtin; refine append_Run wr rfl _ _ rfl (w.heap.size + 1) (.slice vA K vc) (freeUpto u n) ⟨n, 1⟩ rfl rfl HO.out (by have := HK.out; omega) (by omega) ?_; intro v' w1 hown1 hg1; have HOWN := Lib.hid hown1; have HG := Lib.hid hg1; clear hown1 hg1)
                go_roundw
                case rel =>
                  have hbel : Below (w.heap.size + 1) wr w1 := ((Below.refl _ wr).alloc (by omega) _).grown HG.out (by simp; omega) (fun g hg => (HO.out.lt g hg).1)
                  exact ⟨n + 1, by omega, by go_num, HI2.out.below hbel (by omega), by rw [e1.out]; exact HOWN.out, by have hkk := HK.out; clear HK; rw [e1.out, List.length_append, List.length_singleton, ← hkk]; omega, HB2.out.trans (hbel.mono (by omega))⟩
                case measure => (simp [intOf]; try omega)
            · have e1 := Lib.hid (freeUpto_new hb.symm (fun h => hn0 h.1))
              have hn0' : decide ((0 : Int) < n) = false := by simp; omega
              clear hb
              go_wp2_with (at_builtin; refine append_Run wr rfl _ _ rfl (w.heap.size + 1) (.slice vA K vc) (freeUpto u n) ⟨n, 1⟩ rfl rfl HO.out (by have := HK.out; omega) (by omega) ?_; intro v' w1 hown1 hg1; have HOWN := Lib.hid hown1; have HG := Lib.hid hg1; clear hown1 hg1)
              go_roundw
              case rel =>
                have hbel : Below (w.heap.size + 1) wr w1 := ((Below.refl _ wr).alloc (by omega) _).grown HG.out (by simp; omega) (fun g hg => (HO.out.lt g hg).1)
                exact ⟨n + 1, by omega, by go_num, HI2.out.below hbel (by omega), by rw [e1.out]; exact HOWN.out, by have hkk := HK.out; clear HK; rw [e1.out, List.length_append, List.length_singleton, ← hkk]; omega, HB2.out.trans (hbel.mono (by omega))⟩
              case measure => (simp [intOf]; try omega)
          · have e1 := Lib.hid (freeUpto_used hb.symm)
            clear hb
            go_wp2_with fail
            go_roundw
            case rel => exact ⟨n + 1, by omega, by go_num, HI2.out, e1.out ▸ HO.out, by have hkk := HK.out; rw [e1.out, ← hkk]; omega, HB2.out⟩
            case measure => (simp [intOf]; try omega)
        · have hn16' : decide ((n : Int) < 16) = false := by simp; omega
          obtain rfl : n = 16 := by omega
          obtain ⟨A', c', hv, hrow⟩ := RunOwn.row HO.out
          injection hv with hv1 _ hv2
          subst hv1
          have HROW := Lib.hid (show RunRow wr vA R from HRUN.out ▸ hrow)
          have HE := Lib.hid (show Value.slice vA K vc = .slice vA R.length vc by rw [HK.out, HRUN.out])
          clear hv2 hrow hln
          go_wp2_with fail
          go_ret
          refine ⟨?_, HB2.out⟩
          first | exact ⟨vA, vc, congrArg Ending.returned HE.out, HROW.out⟩ | exact ⟨vA, ⟨vc, congrArg Ending.returned HE.out⟩, HROW.out⟩
end Go.Proofs.Ytdpacbdejfjkcaa
