import Derived.Test.YtgkpbndeljnjcaaRNeedsW
import Derived.Deep.OwnRows
/- The document's order (chapter E): shipfitterref.OrderOf. -/
namespace Go.Proofs.Ytgkpbndeljnjcaa
open Go.RowKit
open Gs (Tx)
open Gr (Tab)

/-- a row of n bools in block D -/
def DB (w : World) (D n : Nat) (done : List Bool) : Prop := ∀ k, k < n → w.cell? ⟨D, k, none⟩ = some (.bool (done.getD k false)) ∧ w.frozen? ⟨D, k, none⟩ = false
theorem DB.below {w w' : World} {D n B : Nat} {done : List Bool} (h : DB w D n done) (hb : Below B w w') (hD : D < B) : DB w' D n done := fun k hk =>
  ⟨(hb.cell (p := ⟨D, k, none⟩) hD).trans (h k hk).1, (hb.frozen (p := ⟨D, k, none⟩) hD).trans (h k hk).2⟩
theorem DB.set {w : World} {D n : Nat} {done : List Bool} (h : DB w D n done) {b : Nat} (hb : b < n) (hl : done.length = n) : DB (w.setCell ⟨D, b, none⟩ (.bool true)) D n (done.set b true) := fun k hk => by
  refine ⟨?_, by rw [World.frozen?_setCell]; exact (h k hk).2⟩
  rw [Gs.set_at (by omega)]
  by_cases e : k = b
  · subst e; rw [if_pos rfl]; exact World.cell?_setCell_same _ _ _ (h k hk).1
  · rw [if_neg e, World.cell?_setCell_other _ _ _ _ (fun q => by injection q with _ q2 _; exact e q2.symm)]; exact (h k hk).1
theorem Mat.far {w : World} {B0 n O D : Nat} {R C : Nat → Nat} {t : Tab} (h : Mat w B0 n O R C t) (hO : 0 < n → O ≠ D) (hR : ∀ i, i < n → R i ≠ D) (k : Nat) (v : Value) : Mat (w.setCell ⟨D, k, none⟩ v) B0 n O R C t where
  row := fun i hi => by rw [World.cell?_setCell_far _ _ _ _ (show D ≠ O from fun e => hO (by omega) e.symm)]; exact h.row i hi
  cell := fun i j hi hj => by rw [World.cell?_setCell_far _ _ _ _ (show D ≠ R i from fun e => hR i hi e.symm)]; exact h.cell i j hi hj
  free := fun i j hi hj => by rw [World.frozen?_setCell]; exact h.free i j hi hj
  one := h.one
  off := h.off
  low := h.low
  sq := h.sq

theorem Mat.at_lt {w w' : World} {B0 n O B : Nat} {R C : Nat → Nat} {t : Tab} (h : Mat w B0 n O R C t) (hb : Below B w w') (hO : 0 < n → O < B) (hR : ∀ i, i < n → R i < B) : Mat w' B0 n O R C t where
  row := fun i hi => (hb.cell (p := ⟨O, i, none⟩) (hO (by omega))).trans (h.row i hi)
  cell := fun i k hi hk => (hb.cell (p := ⟨R i, k, none⟩) (hR i hi)).trans (h.cell i k hi hk)
  free := fun i k hi hk => (hb.frozen (p := ⟨R i, k, none⟩) (hR i hi)).trans (h.free i k hi hk)
  one := h.one
  off := h.off
  low := h.low
  sq := h.sq

def bestV : Option Nat → Int
  | none => -1
  | some b => b
def okT (t : Tab) (done : List Bool) (i k : Nat) : Bool := !done.getD i false && (List.range k).all (fun k => !t.at i k || done.getD k false)
theorem okT_zero (t : Tab) (done : List Bool) (i : Nat) : okT t done i 0 = !done.getD i false := by simp [okT]
theorem okT_succ (t : Tab) (done : List Bool) (i k : Nat) : okT t done i (k + 1) = (okT t done i k && (!t.at i k || done.getD k false)) := by
  unfold okT; rw [List.range_succ, List.all_append]; simp [Bool.and_assoc]
theorem best_succ (nm : Nat → Tx) (t : Nat → Nat → Bool) (n : Nat) (done : List Bool) (c : Nat) :
    Gs.bestTo nm t n done (c + 1) = if Gs.ready t n done c = true ∧ (∀ j, Gs.bestTo nm t n done c = some j → nm c < nm j) then some c else Gs.bestTo nm t n done c := by
  unfold Gs.bestTo; rw [List.range_succ, List.foldl_append, List.foldl_cons, List.foldl_nil]

/-- the loop of OrderOf -/
structure OLoop (l : List Plc) (t : Tab) (w : World) (O : Nat) (R C : Nat → Nat) (D f : Nat) (v : Value) (done : List Bool) (out left : List Tx) (wr : World) : Prop where
  mat : Mat wr w.heap.size l.length O R C t
  db : DB wr D l.length done
  tr : TR wr (D + 1) v out
  bel : Below w.heap.size w wr
  inv : Gs.Inv (nmN l) (Gr.Way (dirN l) l.length) l.length done left
  llen : left.length = f
  olen : out.length + f = l.length
  ord : Gs.docOrder (nmN l) t.at l.length f done out = orderD l
  low : w.heap.size ≤ D ∧ D < wr.heap.size ∧ O < D ∧ ∀ i, i < l.length → R i < D

theorem best_some {l : List Plc} (hg : grErr l = 0) (hr : isRound l = false) {done : List Bool} {left : List Tx} (h : Gs.Inv (nmN l) (Gr.Way (dirN l) l.length) l.length done left) (hl : 0 < left.length) :
    ∃ b, b < l.length ∧ Gs.bestTo (nmN l) (tabOf l).at l.length done l.length = some b ∧ Gs.ready (tabOf l).at l.length done b = true ∧ ∃ left', Gs.Inv (nmN l) (Gr.Way (dirN l) l.length) l.length (done.set b true) left' ∧ left'.length + 1 = left.length := by
  obtain ⟨_, _, hn⟩ := grErr_ok hg
  have N := Gs.net_of (n := l.length) (dir_of hn) (nodup_one hn)
  have hb := Gs.best_tells (nm := nmN l) (t := (tabOf l).at) (n := l.length) done l.length
  have no : ∀ i, i < l.length → ¬ Gr.Way (dirN l) l.length i i := fun i hi hw => by
    have : isRound l = true := List.any_eq_true.2 ⟨i, List.mem_range.2 hi, (N.tab i i hi hi).2 hw⟩
    rw [hr] at this; cases this
  cases e : Gs.bestTo (nmN l) (tabOf l).at l.length done l.length with
  | none =>
    obtain ⟨x, hx⟩ := List.exists_mem_of_length_pos hl
    obtain ⟨i, hi, hd, _⟩ := (h.mem x).1 hx
    obtain ⟨j, hj, rj⟩ := Gs.some_ready N no _ i hi hd (Nat.le_refl _)
    have := hb.1 e j hj
    rw [show Gs.ready (tabOf l).at l.length done j = true from rj] at this; cases this
  | some b =>
    obtain ⟨h1, h2, _⟩ := hb.2 b e
    exact ⟨b, h1, rfl, h2, _, h.step N h1 h2⟩

set_option maxHeartbeats 8000000 in
set_option maxRecDepth 100000 in
theorem OrderOf_any (A : Option Addr) (c : Nat) (l : List Plc) (w : World) (h : PlsOk w A l) (hg : grErr l = 0) (hr : isRound l = false) :
    Calls Try.prog 16 #[.slice A l.length c] w fun e w' => (∃ v, e = .returned v ∧ TR w' w.heap.size v (orderD l)) ∧ Below w.heap.size w w' := by
  obtain ⟨h8, hall, _⟩ := grErr_ok hg
  have c1 := Lib.hid (Reach_any A c l w h h8)
  have HP := Lib.hid h
  have HNM := Lib.hid (fun i (hi : i < l.length) => (h.each l[i] (List.getElem_mem _)).name)
  have BS := Lib.hid (fun done left h hl => best_some (l := l) hg hr (done := done) (left := left) h hl)
  have hmk := run_make_row' (P := Try.prog) 64 4 (.bool false) 1 Try.underlying64 Try.infoBool rfl .i64 .i64 l.length (by omega) (by omega)
  clear h hg hr hall
  go_enter Try.func16, Try.ntmps16
  go_wp2_with (go_at_call 32; refine (c1.out).mono ?_; rintro e w2 ⟨⟨v, rfl, A2, c3, rfl, hM⟩, hb2⟩; have HM := Lib.hid hM; have HB2 := Lib.hid hb2; clear hM hb2)
  clear hmk
  by_cases hn : l.length = 0
  · have HN := Lib.hid hn
    have HO := Lib.hid (show orderD l = [] by unfold orderD; rw [hn]; rfl)
    clear hn
    go_loopg [5] 0 (fun f v wr => v = .slice none 0 0 ∧ Below w.heap.size w wr)
    case atStart => exact ⟨rfl, HB2.out.alloc HB2.out.size _⟩
    case round =>
      obtain ⟨rfl, hb⟩ := hrel
      have HB := Lib.hid hb
      have t0 : decide (0 < l.length) = false := by rw [HN.out]; rfl
      clear hb
      go_wp2_with fail
      go_ret
      exact ⟨⟨_, rfl, by rw [HO.out]; exact TR.nil _ _⟩, HB.out⟩
  · obtain ⟨O, R, C, rfl, hm2⟩ := HM.out (by omega)
    have hpos : 0 < l.length := by omega
    have hS0 : OLoop l (tabOf l) w O R C w2.heap.size l.length (.slice none 0 0) (List.replicate l.length false) [] (Gs.msort (txs l)) (w2.alloc (.cells (madeCells #[.bool false] l.length) 4)) := by
      have hrow := World.rowIs_made w2 (.bool false) l.length 4
      refine ⟨hm2.below ((Below.refl w2.heap.size w2).alloc (Nat.le_refl _) _) (Nat.le_refl _), fun k hk => ⟨?_, hrow.frozen k⟩, TR.nil _ _, HB2.out.alloc HB2.out.size _, ?_, by rw [msort_length, txs_length], by simp, rfl, HB2.out.size, by simp, hm2.ltO hpos, fun i hi => hm2.lt hi⟩
      · rw [hrow.cell hk, List.getD_eq_getElem?_getD, List.getElem?_replicate, if_pos hk]; rfl
      · rw [← names_txs]; exact Gs.Inv.begun
    have HS0 := Lib.hid hS0
    have HZ2 := Lib.hid HB2.out.size
    have HNE := Lib.hid hn
    clear hS0 hm2 hn
    generalize tabOf l = t at *
    go_loopg [5] l.length (fun f v wr => ∃ done out left, OLoop l t w O R C w2.heap.size f v done out left wr)
    case atStart => exact ⟨_, _, _, HS0.out⟩
    case round =>
      obtain ⟨done, out, left, hS⟩ := hrel
      have HS := Lib.hid hS
      obtain ⟨w1, hw1⟩ : ∃ w1 : World, w1 = wr := ⟨_, rfl⟩
      subst hw1
      obtain ⟨vA, vc, rfl, _⟩ := hS.tr.form
      have hol := hS.olen
      clear hS
      cases gk with
      | zero =>
        have t0 : decide (out.length < l.length) = false := decide_eq_false (by omega)
        have e1 := Lib.hid (show out = orderD l from HS.out.ord)
        clear hol
        go_wp2_with fail
        go_ret
        exact ⟨⟨_, rfl, by rw [← e1.out]; exact HS.out.tr.more (by have := HZ2.out; omega)⟩, HS.out.bel⟩
      | succ f =>
        have t0 : decide (out.length < l.length) = true := decide_eq_true (by omega)
        have HOL := Lib.hid hol
        clear hol
        have HM1 := Lib.hid HS.out.mat
        have HD1 := Lib.hid HS.out.db
        have HBB := Lib.hid HS.out.bel
        go_wp2_with fail
        go_loopw [6, 7] (fun b i wr => ∃ j q : Nat, j ≤ l.length ∧ i = .int .i64 j ∧ b = .int .i64 (bestV (Gs.bestTo (nmN l) t.at l.length done j)) ∧ wr = w1.drewN q) (fun _ i _ => l.length - (intOf i).toNat)
        case atStart => exact ⟨0, 0, by omega, rfl, rfl, rfl⟩
        case round =>
          obtain ⟨j, q, hj, rfl, rfl, hwr⟩ := hrel
          obtain ⟨wq, hwq⟩ : ∃ wq : World, wq = wr := ⟨_, rfl⟩
          subst hwq
          have HWR := Lib.hid hwr
          have HMQ := Lib.hid (show Mat wq w.heap.size l.length O R C t from hwr ▸ HM1.out.drewN q)
          have HDQ := Lib.hid (show DB wq w2.heap.size l.length done from hwr ▸ HD1.out)
          have HBQ := Lib.hid (show Below w.heap.size w wq from hwr ▸ below_drewN HBB.out q)
          clear hwr
          have BT := Lib.hid ((Gs.best_tells (nm := nmN l) (t := t.at) (n := l.length) done j).2)
          have BN := Lib.hid (best_succ (nmN l) t.at l.length done j)
          obtain ⟨bo, hbo⟩ : ∃ bo, bo = Gs.bestTo (nmN l) t.at l.length done j := ⟨_, rfl⟩
          rw [← hbo] at BT BN
          by_cases hlt : j < l.length
          · have hlt' : (j : Int) < l.length := by omega
            obtain ⟨bv, hbv⟩ : ∃ bv, bv = bestV bo := ⟨_, rfl⟩
            have d0 := (HDQ.out j hlt).1
            have HZ0 := Lib.hid (okT_zero t done j)
            have HBV := Lib.hid hbv
            simp only [← hbo, ← hbv]
            obtain ⟨dj, hdj⟩ : ∃ dj, dj = done.getD j false := ⟨_, rfl⟩
            rw [← hdj] at d0 HZ0
            clear hbo hbv hdj
            go_wp2_with fail
            clear d0
            go_loopw [8, 9] (fun s i wr => ∃ k : Nat, k ≤ l.length ∧ i = .int .i64 k ∧ s = .bool (okT t done j k) ∧ wr = wq) (fun _ i _ => l.length - (intOf i).toNat)
            case atStart => exact ⟨0, by omega, rfl, by rw [HZ0.out], rfl⟩
            case round =>
              obtain ⟨k, hk, rfl, rfl, rfl⟩ := hrel
              by_cases hkl : k < l.length
              · have hkl' : (k : Int) < l.length := by omega
                obtain ⟨Ri, Ci, m1, m2⟩ := HMQ.out.get hlt hkl
                have d1 := (HDQ.out k hkl).1
                have HK := Lib.hid (okT_succ t done j k)
                obtain ⟨b1, hb1⟩ : ∃ b1, b1 = okT t done j k := ⟨_, rfl⟩
                obtain ⟨b2, hb2⟩ : ∃ b2, b2 = t.at j k := ⟨_, rfl⟩
                obtain ⟨b3, hb3⟩ : ∃ b3, b3 = done.getD k false := ⟨_, rfl⟩
                rw [← hb2] at m2
                rw [← hb3] at d1
                rw [← hb1, ← hb2, ← hb3] at HK
                simp only [← hb1]
                clear hb1 hb2 hb3
                cases b1
                · go_wp2_with fail
                  go_roundw
                  case rel => exact ⟨k + 1, by omega, by go_num, by rw [HK.out]; rfl, trivial⟩
                  case measure => (simp [intOf]; try omega)
                · cases b2
                  · go_wp2_with fail
                    go_roundw
                    case rel => exact ⟨k + 1, by omega, by go_num, by rw [HK.out]; rfl, trivial⟩
                    case measure => (simp [intOf]; try omega)
                  · go_wp2_with fail
                    go_roundw
                    case rel => exact ⟨k + 1, by omega, by go_num, by rw [HK.out]; rfl, trivial⟩
                    case measure => (simp [intOf]; try omega)
              · obtain rfl : k = l.length := by omega
                obtain ⟨ad, rfl, hab, h0, h1, h2, h3, h4, h5, h6, h7⟩ := plc_at HP.out.row HBQ.out j hlt
                obtain ⟨ok, hok⟩ : ∃ ok, ok = okT t done j l.length := ⟨_, rfl⟩
                have BN2 := Lib.hid (show Gs.bestTo (nmN l) t.at l.length done (j + 1) = if ok = true ∧ (∀ i, bo = some i → nmN l j < nmN l i) then some j else bo by rw [hok]; exact BN.out)
                simp only [← hok]
                clear hok
                cases ok
                · have e1 := Lib.hid (show Gs.bestTo (nmN l) t.at l.length done (j + 1) = bo by rw [BN2.out, if_neg (fun h => by cases h.1)])
                  go_wp2_with fail
                  go_quiet (fail)
                  go_wp2_with fail
                  go_roundw
                  case rel => exact ⟨j + 1, _, by omega, by go_num, by rw [e1.out, HBV.out], (by rw [HWR.out, World.drewN_drewN])⟩
                  case measure => (simp [intOf]; try omega)
                · cases bo with
                  | none =>
                    have e1 := Lib.hid (show Gs.bestTo (nmN l) t.at l.length done (j + 1) = some j by rw [BN2.out, if_pos ⟨rfl, fun i h => by cases h⟩])
                    obtain rfl : bv = -1 := HBV.out
                    go_wp2_with fail
                    go_quiet (fail)
                    go_wp2_with fail
                    go_roundw
                    case rel => exact ⟨j + 1, _, by omega, by go_num, by rw [e1.out]; rfl, (by rw [HWR.out, World.drewN_drewN])⟩
                    case measure => (simp [intOf]; try omega)
                  | some b =>
                    have hbj : b < j := (BT.out b rfl).1
                    obtain rfl : bv = (b : Int) := HBV.out
                    have hbl : b < l.length := by omega
                    have hbl' : (b : Int) < l.length := by omega
                    obtain ⟨_, ea, _, g0, g1, g2, g3, g4, g5, g6, g7⟩ := plc_at HP.out.row HBQ.out b hbl
                    obtain rfl := Option.some.inj ea
                    have cL := Lib.hid (fun W => textLess_any l[j].m.name l[b].m.name W (HNM.out j hlt) (HNM.out b hbl))
                    have ENJ := Lib.hid (nmN_at hlt)
                    have ENB := Lib.hid (nmN_at hbl)
                    simp only [less_lt] at cL
                    by_cases hlx : tx l[j].m.name < tx l[b].m.name
                    · have e1 := Lib.hid (show Gs.bestTo (nmN l) t.at l.length done (j + 1) = some j by rw [BN2.out, if_pos ⟨rfl, fun i h => by cases h; rw [ENJ.out, ENB.out]; exact hlx⟩])
                      rw [decide_eq_true hlx] at cL
                      clear hlx
                      go_wp2_with fail
                      go_quiet ((go_at_call 34; exact quiet_any (cL.out _)))
                      go_wp2_with fail
                      go_roundw
                      case rel => exact ⟨j + 1, _, by omega, by go_num, by rw [e1.out]; rfl, (by rw [HWR.out, World.drewN_drewN])⟩
                      case measure => (simp [intOf]; try omega)
                    · have e1 := Lib.hid (show Gs.bestTo (nmN l) t.at l.length done (j + 1) = some b by rw [BN2.out, if_neg (fun h => hlx (by rw [← ENB.out, ← ENJ.out]; exact h.2 b rfl))])
                      rw [decide_eq_false hlx] at cL
                      clear hlx
                      go_wp2_with fail
                      go_quiet ((go_at_call 34; exact quiet_any (cL.out _)))
                      go_wp2_with fail
                      go_roundw
                      case rel => exact ⟨j + 1, _, by omega, by go_num, by rw [e1.out]; rfl, (by rw [HWR.out, World.drewN_drewN])⟩
                      case measure => (simp [intOf]; try omega)
          · obtain rfl : j = l.length := by omega
            obtain ⟨b, hbl, ebo, _, left', hinv', hll'⟩ := BS.out done left HS.out.inv (by have := HS.out.llen; omega)
            have eord := HS.out.ord
            rw [Gs.docOrder, ebo] at eord
            have eb : bestV (some b) = (b : Int) := rfl
            simp only [ebo, eb]
            clear eb
            have EORD := Lib.hid eord
            rw [ebo] at hbo
            subst hbo
            have hbl' : (b : Int) < l.length := by omega
            obtain ⟨d0, d1⟩ := HDQ.out b hbl
            obtain ⟨ad, rfl, hab, g0, _⟩ := plc_at HP.out.row HBQ.out b hbl
            have EN := Lib.hid (nmN_at hbl)
            obtain ⟨lw1, lw2, lw3, lw4⟩ := HS.out.low
            have hz2 := HZ2.out
            have HLL := Lib.hid (show left'.length = f by have := HS.out.llen; omega)
            have hzq : wq.heap.size = w1.heap.size := by rw [HWR.out]; rfl
            have HT1 := Lib.hid (show TR wq (w2.heap.size + 1) _ out by rw [HWR.out]; exact HS.out.tr)
            have HWS := Lib.hid (grown_set wq w2.heap.size b (.bool true))
            have HTS := Lib.hid (show TR (wq.setCell ⟨w2.heap.size, b, none⟩ (.bool true)) (w2.heap.size + 1) _ out from HT1.out.kept HWS.out (.inr (HT1.out.ne (by omega))))
            have g0' : (wq.setCell ⟨w2.heap.size, b, none⟩ (.bool true)).cell? (ad.add (b * 8)) = some (.string l[b].m.name) := by
              rw [World.cell?_setCell_far _ _ _ _ (by rw [block_of_add]; show w2.heap.size ≠ ad.block; omega)]; exact g0
            have HMS := Lib.hid (HMQ.out.far (D := w2.heap.size) (fun _ => by omega) (fun i hi => by have := lw4 i hi; omega) b (.bool true))
            have HDS := Lib.hid (HDQ.out.set hbl HS.out.inv.dl)
            have HBS := Lib.hid (HBQ.out.setCell (p := ⟨w2.heap.size, b, none⟩) hz2 (.bool true))
            obtain ⟨ws, hws⟩ : ∃ ws, ws = wq.setCell ⟨w2.heap.size, b, none⟩ (.bool true) := ⟨_, rfl⟩
            rw [← hws] at HTS g0' HMS HDS HBS HWS
            have hws' := hws.symm
            have HZS := Lib.hid (show w2.heap.size + 1 ≤ ws.heap.size by have := HWS.out.size; omega)
            have HSZ := Lib.hid (show w2.heap.size < ws.heap.size by have := HWS.out.size; omega)
            have HO1 := Lib.hid (show out.length ≤ 1000000 by have := HOL.out; omega)
            have HINV := Lib.hid hinv'
            have HLO := Lib.hid (And.intro lw3 lw4)
            obtain ⟨y, hy⟩ : ∃ y, y = l[b].m.name := ⟨_, rfl⟩
            rw [← hy] at g0' EN
            clear eord ebo hinv' hll' hws g0 lw1 lw2 lw3 lw4 hz2 hzq hy
            go_wp2_with (at_builtin; refine append_tr ws rfl _ _ rfl (w2.heap.size + 1) _ out y rfl rfl (by exact HTS.out) HO1.out HZS.out ?_; intro v' w4 ht4 hb4; have HT4 := Lib.hid ht4; have HB4 := Lib.hid hb4; clear ht4 hb4)
            go_roundg f
            case measure => omega
            case rel =>
              have e4 := HT4.out
              rw [← EN.out] at e4
              have hb5 : Below (w2.heap.size + 1) ws w4 := HB4.out
              refine ⟨done.set b true, out ++ [nmN l b], left', ⟨?_, HDS.out.below hb5 (by omega), e4, HBS.out.trans (hb5.mono (by have := HZ2.out; omega)), HINV.out, HLL.out, by have := HOL.out; rw [List.length_append]; simp; omega, EORD.out, HZ2.out, by have := hb5.size; have := HSZ.out; omega, HLO.out.1, HLO.out.2⟩⟩
              exact HMS.out.at_lt hb5 (fun _ => by have := HLO.out.1; omega) (fun i hi => by have := HLO.out.2 i hi; omega)

end Go.Proofs.Ytgkpbndeljnjcaa
