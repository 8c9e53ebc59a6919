import Derived.Test.YtgkpbndeljnjcaaRReachW
/- Needs and orders as the document has them (chapter E): sortTexts, NeedsOf, IsRound, OrderOf. -/
namespace Go.Proofs.Ytgkpbndeljnjcaa
open Go.RowKit
open Gs (Tx)
open Gr (Tab)

theorem quiet_any {P : Program} {f : FuncId} {args : Array Value} {v : Value} {w : World} {n : Nat}
    (h : Calls P f args (w.drewN n) fun e w' => e = .returned v ∧ ∃ q, w' = (w.drewN n).drewN q) : Calls P f args (w.drewN n) fun e w'' => e = .returned v ∧ ∃ m, w'' = w.drewN m :=
  h.mono fun _ _ ⟨he, q, hq⟩ => ⟨he, n + q, by rw [hq, World.drewN_drewN]⟩

theorem grown_set (w : World) (b i : Nat) (v : Value) : w.grownBy (w.setCell ⟨b, i, none⟩ v) (some b) := ⟨rfl, rfl, rfl, by simp, fun k _ hne => Below.heap_setCell _ _ _ _ (fun e => hne (by rw [e]))⟩
theorem less_lt {a b : Tx} : Gs.less a b = decide (a < b) := by
  rw [Bool.eq_iff_iff, decide_eq_true_eq]; exact Gs.less_iff a b
theorem TR.at_ {w : World} {base c i : Nat} {A : Option Addr} {ss : List Tx} (h : TR w base (.slice A ss.length c) ss) (hi : i < ss.length) :
    ∃ g, A = some ⟨g, 0, none⟩ ∧ base ≤ g ∧ w.cell? ⟨g, i, none⟩ = some (.string (bs ss[i])) ∧ w.frozen? ⟨g, i, none⟩ = false ∧ ∀ t, TR (w.setCell ⟨g, i, none⟩ (.string (bs t))) base (.slice A ss.length c) (ss.set i t) := by
  obtain ⟨g, h1, h2, _, h3, h4, h5⟩ := TOwn.at_ (n := ss.length) h (by simp) i hi
  refine ⟨g, h1, h2, ?_, h4, fun t => ?_⟩
  · rw [h3, List.getD_eq_getElem?_getD, List.getElem?_eq_getElem (by simpa using hi)]; simp
  · have := h5 (bs t)
    unfold TR; rw [List.map_set]; exact this
theorem sink_step {k : Nat} {l : List Tx} (h : l.getD (k + 1) [] < l.getD k []) : Gs.sink (k + 1) l = Gs.sink k ((l.set (k + 1) (l.getD k [])).set k (l.getD (k + 1) [])) := by
  rw [Gs.sink, if_pos h]
theorem sink_stop {k : Nat} {l : List Tx} (h : ¬ l.getD (k + 1) [] < l.getD k []) : Gs.sink (k + 1) l = l := by
  rw [Gs.sink, if_neg h]
theorem turns_succ (l : List Tx) (c : Nat) : Gs.turns l (c + 1) = Gs.sink (c + 1) (Gs.turns l c) := by
  unfold Gs.turns; rw [List.range_succ, List.foldl_append]; rfl

set_option maxHeartbeats 4000000 in
set_option maxRecDepth 100000 in
theorem sortTexts_any (A : Option Addr) (c base : Nat) (ss : List Tx) (w : World) (h : TR w base (.slice A ss.length c) ss) (hs : ∀ t ∈ ss, (bs t).size ≤ big) (h8 : ss.length ≤ 8) :
    Calls Try.prog 33 #[.slice A ss.length c] w fun e w' => e = .returned (.tuple #[]) ∧ TR w' base (.slice A ss.length c) (Gs.msort ss) ∧ w.grownBy w' (Value.slice A ss.length c).ownBlock := by
  have HT0 := Lib.hid h
  have HS0 := Lib.hid hs
  clear h hs
  have HE := Lib.hid (Gs.turns_all ss)
  go_enter Try.func33, Try.ntmps33
  go_wp2_with fail
  go_loopw [2] (fun i wr => ∃ j : Nat, j ≤ ss.length - 1 ∧ i = .int .i64 ((j : Int) + 1) ∧ TR wr base (.slice A ss.length c) (Gs.turns ss j) ∧ (Gs.turns ss j).Perm ss ∧ w.grownBy wr (Value.slice A ss.length c).ownBlock) (fun i _ => ss.length + 1 - (intOf i).toNat)
  case atStart => exact ⟨0, by omega, rfl, HT0.out, List.Perm.refl _, World.grownBy.refl _ _⟩
  case round =>
    obtain ⟨j, hj, rfl, ht, hp, hg⟩ := hrel
    have HT1 := Lib.hid ht
    have HP1 := Lib.hid hp
    have HG1 := Lib.hid hg
    obtain ⟨w1, hw1⟩ : ∃ w1 : World, w1 = wr := ⟨_, rfl⟩
    subst hw1
    clear ht hp hg
    by_cases hlt : j + 1 < ss.length
    · have hlt' : (j : Int) + 1 < ss.length := by omega
      have HS1 := Lib.hid (turns_succ ss j)
      have HL1 := Lib.hid (show (Gs.turns ss j).length = ss.length from HP1.out.length_eq)
      generalize Gs.turns ss j = L1 at *
      go_wp2_with fail
      go_loopw [3] (fun i wr => ∃ (k : Nat) (L : List Tx), k ≤ j + 1 ∧ i = .int .i64 k ∧ L.length = ss.length ∧ TR wr base (.slice A ss.length c) L ∧ L.Perm ss ∧ Gs.sink k L = Gs.sink (j + 1) L1 ∧ w.grownBy wr (Value.slice A ss.length c).ownBlock) (fun i _ => (intOf i).toNat)
      case atStart => exact ⟨j + 1, L1, by omega, by go_num, HL1.out, HT1.out, HP1.out, rfl, HG1.out⟩
      case round =>
        obtain ⟨k, L, hk, rfl, hl, ht, hp, hs, hg⟩ := hrel
        have HT := Lib.hid ht
        have HP := Lib.hid hp
        have HS := Lib.hid hs
        have HG := Lib.hid hg
        have HLL := Lib.hid hl
        cases k with
        | zero =>
          have e1 := Lib.hid (show Gs.turns ss (j + 1) = L from HS1.out.trans hs.symm)
          clear ht hp hs hg hl
          go_wp2_with fail
          go_quiet (fail)
          go_wp2_with fail
          go_roundw
          case rel => exact ⟨j + 1, by omega, by go_num, by rw [e1.out]; exact HT.out, by rw [e1.out]; exact HP.out, HG.out.trans ⟨rfl, rfl, rfl, Nat.le_refl _, fun _ _ _ => rfl⟩⟩
          case measure => (simp [intOf]; try omega)
        | succ k =>
          have h1 : k + 1 < L.length := by omega
          have h0 : k < L.length := by omega
          rw [← hl] at ht
          obtain ⟨g, rfl, hgb, a1, f1, u1⟩ := ht.at_ h1
          obtain ⟨g', eg, _, a0, f0, u0⟩ := ht.at_ h0
          obtain rfl : g = g' := by injection eg with eg; injection eg
          have HU := Lib.hid (show ∀ x y, TR ((wr.setCell ⟨g, k + 1, none⟩ (.string (bs x))).setCell ⟨g, k, none⟩ (.string (bs y))) base (.slice (some ⟨g, 0, none⟩) ss.length c) ((L.set (k + 1) x).set k y) from fun x y => by
            have h2 := u1 x
            have e : (L.set (k + 1) x).length = L.length := by simp
            rw [← e] at h2
            have := (h2.at_ (i := k) (by rw [e]; exact h0))
            obtain ⟨g2, eg2, _, _, _, u2⟩ := this
            obtain rfl : g = g2 := by injection eg2 with eg2; injection eg2
            have h3 := u2 y
            rw [e, hl] at h3; exact h3)
          have ht1 : (bs L[k + 1]).size ≤ big := HS0.out _ (hp.subset (List.getElem_mem h1))
          have ht0 : (bs L[k]).size ≤ big := HS0.out _ (hp.subset (List.getElem_mem h0))
          have cL := Lib.hid (fun W => textLess_any (bs L[k + 1]) (bs L[k]) W ht1 ht0)
          simp only [tx_bs, less_lt] at cL
          have d1 : L.getD (k + 1) [] = L[k + 1] := by rw [List.getD_eq_getElem?_getD, List.getElem?_eq_getElem h1]; rfl
          have d0 : L.getD k [] = L[k] := by rw [List.getD_eq_getElem?_getD, List.getElem?_eq_getElem h0]; rfl
          have S1 := Lib.hid (fun h => (sink_step (k := k) (l := L) h).symm.trans hs)
          have S0 := Lib.hid (fun h => (sink_stop (k := k) (l := L) h).symm.trans hs)
          have HPM := Lib.hid (show (((L.set (k + 1) L[k]).set k L[k + 1]) : List Tx).Perm L from List.set_set_perm h1 h0)
          rw [d1, d0] at S1 S0
          obtain ⟨x, hx⟩ : ∃ x, x = L[k + 1] := ⟨_, rfl⟩
          obtain ⟨y, hy⟩ : ∃ y, y = L[k] := ⟨_, rfl⟩
          simp only [← hx, ← hy] at cL S1 S0 HPM a1 a0
          obtain ⟨sx, hsx⟩ : ∃ sx, sx = bs x := ⟨_, rfl⟩
          obtain ⟨sy, hsy⟩ : ∃ sy, sy = bs y := ⟨_, rfl⟩
          simp only [← hsx, ← hsy] at cL a1 a0
          have HSX := Lib.hid hsx
          have HSY := Lib.hid hsy
          have hk1 : (k : Int) + 1 < ss.length := by omega
          have hk0 : (k : Int) < ss.length := by omega
          have HK := Lib.hid hk
          clear ht hp hs hg d1 d0 hx hy hsx hsy u1 u0 eg ht1 ht0
          by_cases hlx : x < y
          · have e1 := Lib.hid (S1.out hlx)
            rw [decide_eq_true hlx] at cL
            clear hlx
            go_wp2_with fail
            go_quiet ((go_at_call 34; exact quiet_any (cL.out _)))
            go_wp2_with fail
            go_big_region
            go_wp2_with fail
            go_roundw
            case rel =>
              refine ⟨k, (L.set (k + 1) y).set k x, by omega, by go_num, by simp [HLL.out], ?_, HPM.out.trans HP.out, e1.out, ?_⟩
              · have := HU.out y x
                rw [← HSX.out, ← HSY.out] at this
                exact this
              · exact ((HG.out.trans (⟨rfl, rfl, rfl, Nat.le_refl _, fun _ _ _ => rfl⟩ : wr.grownBy (wr.drewN (nq + 1)) _)).trans (grown_set _ g (k + 1) _)).trans (grown_set _ g k _)
            case measure => (simp [intOf]; try omega)
          · have e1 := Lib.hid (S0.out hlx)
            rw [decide_eq_false hlx] at cL
            clear hlx
            go_wp2_with fail
            go_quiet ((go_at_call 34; exact quiet_any (cL.out _)))
            go_wp2_with fail
            go_roundw
            case rel => exact ⟨j + 1, by omega, by go_num, by rw [HS1.out, ← e1.out]; exact HT.out, by rw [HS1.out, ← e1.out]; exact HP.out, HG.out.trans ⟨rfl, rfl, rfl, Nat.le_refl _, fun _ _ _ => rfl⟩⟩
            case measure => (simp [intOf]; try omega)
    · have e1 := Lib.hid (show Gs.turns ss j = Gs.msort ss by rw [show j = ss.length - 1 by omega]; exact HE.out)
      go_wp2_with fail
      go_end0
      exact ⟨rfl, by rw [← e1.out]; exact HT1.out, HG1.out⟩

/-- a cell of such a table, as the walk reads it -/
theorem Mat.get {w : World} {B0 n O : Nat} {R C : Nat → Nat} {t : Tab} (h : Mat w B0 n O R C t) {i k : Nat} (hi : i < n) (hk : k < n) :
    ∃ Ri Ci, w.cell? ⟨O, i, none⟩ = some (.slice (some ⟨Ri, 0, none⟩) n Ci) ∧ w.cell? ⟨Ri, k, none⟩ = some (.bool (t.at i k)) := ⟨R i, C i, h.row i hi, h.cell i k hi hk⟩

set_option maxHeartbeats 2000000 in
set_option maxRecDepth 100000 in
theorem IsRound_any (A : Option Addr) (c : Nat) (l : List Plc) (w : World) (h : PlsOk w A l) (h8 : l.length ≤ 8) :
    Calls Try.prog 14 #[.slice A l.length c] w fun e w' => e = .returned (.bool (isRound l)) ∧ Below w.heap.size w w' := by
  have c1 := Lib.hid (Reach_any A c l w h h8)
  have HR := Lib.hid (show isRound l = (List.range l.length).any (fun i => (tabOf l).at i i) from rfl)
  generalize isRound l = R0 at *
  generalize tabOf l = t at *
  clear h
  go_enter Try.func14, Try.ntmps14
  go_wp2_with (go_at_call 32; refine (c1.out).mono ?_; rintro e w2 ⟨⟨v, rfl, A2, c2, rfl, hM⟩, hb2⟩; have HM := Lib.hid hM; have HB := Lib.hid hb2; clear hM hb2)
  go_loopw [4] (fun i wr => ∃ j : Nat, j ≤ l.length ∧ i = .int .i64 j ∧ (∀ k, k < j → t.at k k = false) ∧ wr = w2) (fun i _ => l.length - (intOf i).toNat)
  case atStart => exact ⟨0, by omega, rfl, by omega, rfl⟩
  case round =>
    obtain ⟨j, hj, rfl, hN, rfl⟩ := hrel
    have HN := Lib.hid hN
    clear hN
    by_cases hlt : j < l.length
    · have hlt' : (j : Int) < l.length := by omega
      obtain ⟨O, R, C, rfl, hm⟩ := HM.out (by omega)
      obtain ⟨Ri, Ci, m1, m2⟩ := hm.get hlt hlt
      obtain ⟨b, hb⟩ : ∃ b, b = t.at j j := ⟨_, rfl⟩
      rw [← hb] at m2
      have HBB := Lib.hid hb
      clear hm hb
      cases b
      · go_wp2_with fail
        go_roundw
        case rel => exact ⟨j + 1, by omega, by go_num, fun k hk => by rcases Nat.lt_succ_iff_lt_or_eq.1 hk with h | rfl; exact HN.out k h; exact HBB.out.symm, trivial⟩
        case measure => (simp [intOf]; try omega)
      · have e1 := Lib.hid (show R0 = true by rw [HR.out]; exact List.any_eq_true.2 ⟨j, List.mem_range.2 hlt, HBB.out.symm⟩)
        go_wp2_with fail
        go_ret
        exact ⟨ret_bool e1.out.symm, HB.out⟩
    · have e1 := Lib.hid (show R0 = false by
        rw [HR.out, List.any_eq_false]
        intro k hk
        have := List.mem_range.1 hk
        rw [HN.out k (by omega)]; simp)
      go_wp2_with fail
      go_ret
      exact ⟨ret_bool e1.out.symm, HB.out⟩

/-- names of some places, of the first so many -/
def pickT (l : List Plc) (P : Nat → Bool) (j : Nat) : List Tx := ((List.range j).filter P).map (nmN l)
theorem pickT_in {l : List Plc} {P : Nat → Bool} {j : Nat} (h : P j = true) : pickT l P (j + 1) = pickT l P j ++ [nmN l j] := by
  unfold pickT; rw [List.range_succ, List.filter_append, List.map_append]; simp [h]
theorem pickT_out {l : List Plc} {P : Nat → Bool} {j : Nat} (h : P j = false) : pickT l P (j + 1) = pickT l P j := by
  unfold pickT; rw [List.range_succ, List.filter_append, List.map_append]; simp [h]
theorem pickT_le (l : List Plc) (P : Nat → Bool) (j : Nat) : (pickT l P j).length ≤ j := by
  unfold pickT
  have := List.length_filter_le P (List.range j)
  rw [List.length_range] at this
  simpa using this
theorem pickT_mem {l : List Plc} {P : Nat → Bool} {j : Nat} (hj : j ≤ l.length) {x : Tx} (h : x ∈ pickT l P j) : ∃ i, ∃ hi : i < l.length, x = tx l[i].m.name := by
  obtain ⟨i, hi, rfl⟩ := List.mem_map.1 h
  have := List.mem_range.1 (List.mem_filter.1 hi).1
  exact ⟨i, by omega, nmN_at (by omega)⟩

set_option maxHeartbeats 4000000 in
set_option maxRecDepth 100000 in
theorem NeedsOf_any (A : Option Addr) (c : Nat) (l : List Plc) (nm : ByteArray) (users : Bool) (p : Nat) (w : World) (h : PlsOk w A l) (h8 : l.length ≤ 8) (hp : p < l.length) (hip : idxOf (named nm) l = p) :
    Calls Try.prog 15 #[.slice A l.length c, .string nm, .bool users] w fun e w' => (∃ v, e = .returned v ∧ TR w' w.heap.size v (needsOf l p users)) ∧ Below w.heap.size w w' := by
  have c1 := Lib.hid (Reach_any A c l w h h8)
  have c2 := Lib.hid (fun W (hb : Below w.heap.size w W) => PlaceOf_any A c l nm W (h.row.below hb) h.len)
  rw [hip] at c2
  have HP := Lib.hid h
  obtain ⟨P, hP⟩ : ∃ P : Nat → Bool, P = fun i => if users then (tabOf l).at i p else (tabOf l).at p i := ⟨_, rfl⟩
  have HN := Lib.hid (show needsOf l p users = Gs.msort (pickT l P l.length) by rw [hP]; rfl)
  generalize needsOf l p users = N at *
  have HPP := Lib.hid (fun i => congrFun hP i)
  clear hP h hip
  generalize tabOf l = t at *
  have hp' : (p : Int) < l.length := by omega
  go_enter Try.func15, Try.ntmps15
  go_wp2_with (first
    | (go_at_call 32; refine (c1.out).mono ?_; rintro e w2 ⟨⟨v, rfl, A2, c3, rfl, hM⟩, hb2⟩; have HM := Lib.hid hM; have HB2 := Lib.hid hb2; clear hM hb2)
    | (go_at_call 13; refine (c2.out _ HB2.out).mono ?_; rintro e w3 ⟨rfl, hb3⟩; have HB3 := Lib.hid hb3; clear hb3))
  obtain ⟨O, R, C, rfl, hm2⟩ := HM.out (by omega)
  have HM3 := Lib.hid (hm2.below HB3.out (Nat.le_refl _))
  have HBW := Lib.hid (HB2.out.trans (HB3.out.mono HB2.out.size))
  clear hm2
  go_loopw [9, 10] (fun v i wr => ∃ j : Nat, j ≤ l.length ∧ i = .int .i64 j ∧ TR wr w3.heap.size v (pickT l P j) ∧ Below w3.heap.size w3 wr) (fun _ i _ => l.length - (intOf i).toNat)
  case atStart => exact ⟨0, by omega, rfl, TR.nil _ _, Below.refl _ _⟩
  case round =>
    obtain ⟨j, hj, rfl, ht, hb⟩ := hrel
    have HT := Lib.hid ht
    have HB := Lib.hid hb
    have hwz := hb.size
    clear ht
    by_cases hlt : j < l.length
    · have hlt' : (j : Int) < l.length := by omega
      have hM := HM3.out.below hb (Nat.le_refl _)
      obtain ⟨ad, rfl, hab, h0, h1, h2, h3, h4, h5, h6, h7⟩ := plc_at HP.out.row (HBW.out.trans (hb.mono HBW.out.size)) j hlt
      have HPJ := Lib.hid (HPP.out j)
      have HI := Lib.hid (pickT_in (l := l) (P := P) (j := j))
      have HO := Lib.hid (pickT_out (l := l) (P := P) (j := j))
      have HL := Lib.hid (show (pickT l P j).length ≤ 1000000 by have := pickT_le l P j; omega)
      rw [nmN_at hlt] at HI
      obtain ⟨y, hy⟩ : ∃ y, y = l[j].m.name := ⟨_, rfl⟩
      rw [← hy] at h0 HI
      have HZ := Lib.hid hwz
      clear hb hy
      cases users
      · obtain ⟨Ri, Ci, m1, m2⟩ := hM.get hp hlt
        have e0 : P j = t.at p j := HPJ.out
        obtain ⟨b, hb⟩ : ∃ b, b = t.at p j := ⟨_, rfl⟩
        rw [← hb] at m2 e0
        clear hM hb
        cases b
        · have e1 := Lib.hid (HO.out e0)
          clear e0
          go_wp2_with fail
          go_roundw
          case rel => exact ⟨j + 1, by omega, by go_num, by rw [e1.out]; exact HT.out, HB.out⟩
          case measure => (simp [intOf]; try omega)
        · have e1 := Lib.hid (HI.out e0)
          clear e0
          go_wp2_with (at_builtin; refine append_tr wr rfl _ _ rfl w3.heap.size _ (pickT l P j) y rfl rfl (by exact HT.out) HL.out HZ.out ?_; intro v' w4 ht4 hb4)
          go_roundw
          case rel => exact ⟨j + 1, by omega, by go_num, by rw [e1.out]; exact ht4, HB.out.trans hb4⟩
          case measure => (simp [intOf]; try omega)
      · obtain ⟨Ri, Ci, m1, m2⟩ := hM.get hlt hp
        have e0 : P j = t.at j p := HPJ.out
        obtain ⟨b, hb⟩ : ∃ b, b = t.at j p := ⟨_, rfl⟩
        rw [← hb] at m2 e0
        clear hM hb
        cases b
        · have e1 := Lib.hid (HO.out e0)
          clear e0
          go_wp2_with fail
          go_roundw
          case rel => exact ⟨j + 1, by omega, by go_num, by rw [e1.out]; exact HT.out, HB.out⟩
          case measure => (simp [intOf]; try omega)
        · have e1 := Lib.hid (HI.out e0)
          clear e0
          go_wp2_with (at_builtin; refine append_tr wr rfl _ _ rfl w3.heap.size _ (pickT l P j) y rfl rfl (by exact HT.out) HL.out HZ.out ?_; intro v' w4 ht4 hb4)
          go_roundw
          case rel => exact ⟨j + 1, by omega, by go_num, by rw [e1.out]; exact ht4, HB.out.trans hb4⟩
          case measure => (simp [intOf]; try omega)
    · obtain rfl : j = l.length := by omega
      obtain ⟨A5, c5, hv, hr5⟩ := HT.out.form
      have HT2 := Lib.hid HT.out
      rw [hv] at HT2
      subst hv
      have cS := Lib.hid (sortTexts_any A5 c5 w3.heap.size (pickT l P l.length) wr HT2.out (fun x hx => by
        obtain ⟨i, hi, rfl⟩ := pickT_mem (Nat.le_refl _) hx
        rw [bs_tx]; exact (HP.out.each l[i] (List.getElem_mem _)).name) (Nat.le_trans (pickT_le l P l.length) h8))
      have HZ := Lib.hid (Nat.le_trans HBW.out.size hwz)
      clear hb hr5
      go_wp2_with (go_at_call 33; refine (cS.out).mono ?_; rintro e w6 ⟨rfl, ht6, hg6⟩; have HT6 := Lib.hid ht6; have HG6 := Lib.hid hg6; clear ht6 hg6)
      go_ret
      refine ⟨⟨_, rfl, ?_⟩, ?_⟩
      · rw [HN.out]
        have := HT6.out.more (base' := w.heap.size) HBW.out.size
        exact this
      · exact (HBW.out.trans (HB.out.mono HBW.out.size)).grown HG6.out HZ.out (fun g hg => by
          have := (HT2.out.lt g hg).1
          have := HBW.out.size
          omega)

end Go.Proofs.Ytgkpbndeljnjcaa
