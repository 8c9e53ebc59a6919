import Derived.Test.YtgkpbndeljnjcaaGrReachW
import Derived.Deep.LoopGhost
/- The order of modules (chapter E): graph.Sorted, Order. -/
namespace Go.Proofs.Ytgkpbndeljnjcaa
open Go.RowKit Go.Lib Go.Sort
open Gs (Tx)

theorem TR.ne {w : World} {base k : Nat} {v : Value} {ss : List Tx} (h : TR w base v ss) (hk : k < base) : v.ownBlock ≠ some k := fun e => by have := (h.lt k e).1; omega
theorem heap_put {w : World} {g q : Nat} {cur : Array Value} {e : TypeId} {fr : Nat × Nat} (d : Array (List UInt8)) (hb : w.heap[g]? = some (.cells cur e fr)) :
    (putRow encStr (Sort.ahead w q) g 0 d).heap[g]? = some (.cells (putCells encStr 0 d cur) e fr) := by
  simp [putRow, mapBlock, Sort.ahead, Array.getElem?_modify, hb, onCells]
theorem eraseIdx_split : ∀ (l : List Tx) (i : Nat), l.eraseIdx i = l.take i ++ l.drop (i + 1)
  | [], i => by simp
  | x :: l, 0 => by simp
  | x :: l, i + 1 => by simp [eraseIdx_split l i]
theorem Delete_tr {w : World} {base c i : Nat} {A : Option Addr} {ss : List Tx} (h : TR w base (.slice A ss.length c) ss) (hi : i < ss.length) :
    Calls Try.prog 55 #[.slice A ss.length c, .int .i64 i, .int .i64 (i + 1)] w fun e w' => e = .returned (.slice A (ss.eraseIdx i).length c) ∧ TR w' base (.slice A (ss.eraseIdx i).length c) (ss.eraseIdx i) ∧ w.grownBy w' (Value.slice A ss.length c).ownBlock := by
  have ho := h.own
  have hv : Value.slice A ss.length c ≠ .slice none 0 0 := by intro e; injection e with _ e2 _; omega
  obtain ⟨g, cap, hv', hbg, hgl, hncap, hcm, hlen, hH⟩ := Lib.holds_of_ownsRow ho hv
  injection hv' with hA _ hcc
  subst hA hcc
  unfold maxLen at hcm
  have hn : (ss.eraseIdx i).length = ss.length - 1 := by rw [List.length_eraseIdx, if_pos hi]
  refine (Try.slices_Delete_string g 0 c i (i + 1) ss w hH hncap (by omega) (by omega) (by omega)).mono ?_
  rintro e w' ⟨rfl, q, rfl⟩
  refine ⟨by rw [hn, show i + 1 - i = 1 by omega], ?_, grownBy_put _⟩
  rcases ho.2 with ⟨h0, _⟩ | ⟨g', cap', cur, hv', hbase, hb, h1, h2, h3, h4⟩
  · exact absurd h0 hv
  · injection hv' with hA' _ hc'
    injection hA' with hA'
    injection hA' with hg' _ _
    subst hg' hc'
    refine TR.of_own (n := (ss.eraseIdx i).length) ⟨by simp, .inr ⟨g, c, _, rfl, hbase, heap_put _ hb, by omega, h2, by simp [putCells, h3], ?_⟩⟩
    have hs : ss.take i ++ ss.drop (i + 1) ++ List.replicate (i + 1 - i) [] = ss.eraseIdx i ++ [[]] := by rw [eraseIdx_split, show i + 1 - i = 1 by omega]; rfl
    rw [hs, Nat.mul_one]
    have ht := take_putCells cur (ss.eraseIdx i ++ [[]]) (by simp; omega)
    have h5 := congrArg (List.take (ss.eraseIdx i).length) ht
    rw [List.take_take, Nat.min_eq_left (by simp)] at h5
    rw [h5, List.map_append]
    rw [List.take_append_of_le_length (by simp), List.take_of_length_le (by simp)]

/-- is it asked by none of the left? -/
theorem free_any (r : Tx → Tx → Bool) (left : List Tx) (x : Tx) : Gs.free r left x = !(left.any (r x)) := by
  unfold Gs.free
  induction left with
  | nil => rfl
  | cons y l ih => rw [List.all_cons, List.any_cons, ih]; cases r x y <;> rfl
theorem idxOf_find {α : Type} (q : α → Bool) : ∀ (l : List α), idxOf q l = if l.findIdx q < l.length then (l.findIdx q : Int) else -1
  | [] => rfl
  | x :: l => by
    unfold idxOf
    rw [List.findIdx_cons]
    by_cases h : q x = true
    · simp [h]
    · have h' : q x = false := by simpa using h
      have ih := idxOf_find q l
      rw [if_neg h, h']
      simp only [cond_false, List.length_cons]
      by_cases k : l.findIdx q < l.length
      · rw [if_pos k] at ih
        rw [ih, if_neg (by omega), if_pos (by omega)]; rfl
      · rw [if_neg k] at ih
        rw [ih, if_pos (by omega), if_neg (by omega)]

set_option maxHeartbeats 1000000 in
set_option maxRecDepth 100000 in
theorem sorted2_any (A : Option Addr) (c : Nat) (l : List Plc) (L X : Nat) (x y : Tx) (w : World) (h : PlsOk w A l) (hc : w.cell? ⟨L, 0, none⟩ = some (.slice A l.length c)) (hd : w.cell? ⟨X, 0, none⟩ = some (.string (bs x))) (hx : x ∈ txs l) :
    Calls Try.prog 54 (#[.string (bs y)] ++ #[.pointer (some ⟨L, 0, none⟩), .pointer (some ⟨X, 0, none⟩)]) w fun e w' => e = .returned (.bool (dirT l x y)) ∧ Below w.heap.size w w' := by
  have c1 := Lib.hid (direct_any A c l (bs x) (bs y) w h (by rw [tx_bs]; exact hx))
  simp only [tx_bs] at c1
  generalize dirT l x y = d at *
  clear h hx
  go_enter Try.func54, Try.ntmps54
  go_wp2_with (first | (go_at_call 26; (with_reducible refine (c1.out).mono ?_); rintro e w1 ⟨rfl, hb1⟩))
  go_ret
  exact ⟨rfl, hb1⟩

set_option maxHeartbeats 1000000 in
set_option maxRecDepth 100000 in
theorem sorted1_any (A : Option Addr) (c : Nat) (l : List Plc) (B L : Nat) (lA : Option Addr) (lC : Nat) (left : List Tx) (x : Tx) (w : World) (h : PlsOk w A l) (hc : w.cell? ⟨L, 0, none⟩ = some (.slice A l.length c))
    (hd : w.cell? ⟨B, 0, none⟩ = some (.slice lA left.length lC)) (hr : TxRow w lA left) (hl : left.length ≤ big) (hx : x ∈ txs l) (hL : L < w.heap.size) :
    Calls Try.prog 52 (#[.string (bs x)] ++ #[.pointer (some ⟨B, 0, none⟩), .pointer (some ⟨L, 0, none⟩)]) w fun e w' => e = .returned (.bool (Gs.free (dirT l) left x)) ∧ Below w.heap.size w w' := by
  obtain ⟨w0, hw0⟩ : ∃ w0, w0 = w.alloc (.cells #[.string (bs x)] 9) := ⟨_, rfl⟩
  obtain ⟨hc0, hz0, hb0⟩ := box1 hw0
  have c1 := Lib.hid (ContTx_any lA lC left 54 #[.pointer (some ⟨L, 0, none⟩), .pointer (some ⟨w.heap.size, 0, none⟩)] (dirT l x) w0 (enters_of Try.func54 (by kernel_rfl) rfl) (hr.below hb0) hl
    (fun y _ W hb => sorted2_any A c l L w.heap.size x y W ((h.below hb0).below hb) ((hb.cell (by simp; omega)).trans ((hb0.cell hL).trans hc)) ((hb.cell (by simp; omega)).trans hc0) hx))
  have hB : B < w.heap.size := World.block_lt_of_cell? _ _ hd
  have d0 := (hb0.cell (p := ⟨B, 0, none⟩) hB).trans hd
  have H0 := Lib.hid hb0
  have hw0' := hw0.symm
  rw [free_any]
  generalize left.any (dirT l x) = b at *
  clear hw0 hb0 h hr hc hd hx hz0 hl
  go_enter Try.func52, Try.ntmps52
  go_wp2_with (go_at_call 53; refine (c1.out).mono ?_; rintro e w2 ⟨rfl, hb2⟩)
  go_ret
  exact ⟨rfl, H0.out.trans (hb2.mono H0.out.size)⟩

def SortRes (w' : World) (base : Nat) (e : Ending) (o : Option (List Tx)) : Prop := ∃ v, e = .returned (.tuple #[v, .bool o.isSome]) ∧ TR w' base v (o.getD [])
theorem TR.at_lt {w w' : World} {base B : Nat} {v : Value} {ss : List Tx} (h : TR w base v ss) (hb : Below B w w') (hlt : ∀ g, v.ownBlock = some g → g < B) : TR w' base v ss := by
  refine ⟨h.1, ?_⟩
  rcases h.2 with h0 | ⟨g, cap, cur, e1, e2, e3, e4⟩
  · exact .inl h0
  · refine .inr ⟨g, cap, cur, e1, e2, ?_, e4⟩
    rw [hb.block g (hlt g (by rw [e1]; rfl))]; exact e3
/-- the loop of Sorted: what is left, what is out -/
structure SLoop (l : List Plc) (base B base2 : Nat) (w : World) (v : Value) (left out : List Tx) (wr : World) : Prop where
  ord : Gs.order (dirT l) left.length left out = sortedT l
  out_ : TR wr base2 v out
  box : ∃ u, Boxed wr B 23 u ∧ TR wr base u left ∧ (∀ g, u.ownBlock = some g → g < B)
  mem : ∀ x ∈ left, x ∈ txs l
  len : out.length + left.length ≤ 8
  bel : Below base w wr

theorem order_zero (r : Tx → Tx → Bool) (left out : List Tx) (h : left = []) : Gs.order r left.length left out = some out := by subst h; rfl
theorem order_pos (r : Tx → Tx → Bool) (left out : List Tx) (h : left ≠ []) : Gs.order r left.length left out = if left.findIdx (Gs.free r left) < left.length then Gs.order r (left.length - 1) (left.eraseIdx (left.findIdx (Gs.free r left))) (out ++ [left.getD (left.findIdx (Gs.free r left)) []]) else none := by
  obtain ⟨n, hn⟩ : ∃ n, left.length = n + 1 := by
    cases left with
    | nil => exact absurd rfl h
    | cons x l => exact ⟨l.length, rfl⟩
  rw [hn, Gs.order, hn]; rfl

set_option maxHeartbeats 4000000 in
set_option maxRecDepth 100000 in
theorem Sorted_any (A : Option Addr) (c : Nat) (l : List Plc) (w : World) (h : PlsOk w A l) (h8 : l.length ≤ 8) :
    Calls Try.prog 29 #[.slice A l.length c] w fun e w' => SortRes w' w.heap.size e (sortedT l) ∧ Below w.heap.size w w' := by
  obtain ⟨w0, hw0⟩ : ∃ w0, w0 = w.alloc (.cells #[.slice A l.length c] 22) := ⟨_, rfl⟩
  obtain ⟨hc0, hz0, hb0⟩ := box1 hw0
  have c1 := Lib.hid (names_any A c l w0 (h.row.below hb0) h8)
  have HP := Lib.hid h
  have H0 := Lib.hid hb0
  have HC0 := Lib.hid hc0
  have HZ0 := Lib.hid hz0
  have hTl := Lib.hid (show (Gs.msort (txs l)).length = l.length by rw [msort_length, txs_length])
  have hw0' := hw0.symm
  clear h hb0 hw0 hz0
  go_enter Try.func29, Try.ntmps29
  go_wp2_with (go_at_call 50; refine (c1.out).mono ?_; rintro e w1 ⟨⟨v, rfl, ht1⟩, hb1⟩; obtain ⟨lA, lC, rfl, _⟩ := ht1.form; have HT := Lib.hid ht1; have HB1 := Lib.hid hb1; clear ht1 hb1)
  have hS0 : SLoop l w0.heap.size w1.heap.size (w1.heap.size + 1) w0 (.slice none 0 0) (Gs.msort (txs l)) [] (w1.alloc (.cells #[.slice lA (Gs.msort (txs l)).length lC] 23)) :=
    ⟨by rw [hTl.out]; rfl, TR.nil _ _, ⟨_, Boxed.new _ _ _, HT.out.alloc _, fun g hg => (HT.out.lt g hg).2⟩, fun x hx => by rwa [Gs.msort_mem] at hx,
      by rw [hTl.out]; simpa using h8, HB1.out.alloc HB1.out.size _⟩
  have HS0 := Lib.hid hS0
  have HLB := Lib.hid (show w.heap.size < w1.heap.size by have h1 := HZ0.out; have h2 := HB1.out.size; omega)
  clear hS0
  go_loopg [5] (Gs.msort (txs l)).length (fun gf v wr => ∃ left out, left.length = gf ∧ SLoop l w0.heap.size w1.heap.size (w1.heap.size + 1) w0 v left out wr)
  case atStart => exact ⟨_, _, rfl, HS0.out⟩
  case round =>
    obtain ⟨left, out, hlen, hS⟩ := hrel
    have HS := Lib.hid hS
    have HB := Lib.hid hS.bel
    obtain ⟨u, hbox, htl, hlow⟩ := hS.box
    obtain ⟨uA, uC, rfl, hrow⟩ := htl.form
    have b0 := hbox.cell
    have b1 := hbox.frozen
    have HX := Lib.hid hbox
    have HTL := Lib.hid htl
    have HLOW := Lib.hid hlow
    have HROW := Lib.hid hrow
    have hz0 := HZ0.out
    have hcl := (HB.out.cell (p := ⟨w.heap.size, 0, none⟩) (by simp; omega)).trans HC0.out
    have hLw : w.heap.size < wr.heap.size := by have := HB.out.size; omega
    have HBW := Lib.hid (H0.out.trans (HB.out.mono H0.out.size))
    have HLN := Lib.hid hlen
    have hBw := hbox.lt
    clear hS htl hlow hrow hz0 hlen
    by_cases hne : left = []
    · subst hne
      have e1 := Lib.hid (HS.out.ord.symm.trans (order_zero _ _ out rfl))
      go_wp2_with fail
      go_ret2
      exact ⟨⟨_, by rw [e1.out]; rfl, by rw [e1.out]; exact HS.out.out_.more (by have := HLB.out; omega)⟩, HBW.out⟩
    · have e1 := Lib.hid (HS.out.ord.symm.trans (order_pos _ _ out hne))
      have hpos : (0 : Int) < left.length := by have := List.length_pos_iff.2 hne; omega
      have hll : left.length ≤ 8 := by have := HS.out.len; omega
      have c2 := Lib.hid (IdxTx_any uA uC left 52 #[.pointer (some ⟨w1.heap.size, 0, none⟩), .pointer (some ⟨w.heap.size, 0, none⟩)] (Gs.free (dirT l) left) wr (enters_of Try.func52 (by kernel_rfl) rfl) HROW.out (by unfold big; omega)
        (fun x hx W hb => sorted1_any A c l w1.heap.size w.heap.size uA uC left x W (HP.out.below (HBW.out.trans (hb.mono HBW.out.size))) ((hb.cell (by simp; omega)).trans hcl) ((hb.cell (by simp; omega)).trans b0) (HROW.out.below hb) (by unfold big; omega) (HS.out.mem x hx) (by have := hb.size; omega)))
      rw [idxOf_find] at c2
      obtain ⟨k, hk⟩ : ∃ k, k = left.findIdx (Gs.free (dirT l) left) := ⟨_, rfl⟩
      rw [← hk] at c2 e1
      clear hk hbox
      by_cases hkl : k < left.length
      · rw [if_pos hkl] at c2 e1
        have HKR := Lib.hid (fun W (hb : Below wr.heap.size wr W) => tx_at HROW.out hb k hkl)
        obtain ⟨ad, hA, _⟩ := tx_at HROW.out (Below.refl _ _) k hkl
        subst hA
        have eg : left.getD k [] = left[k] := by rw [List.getD_eq_getElem?_getD, List.getElem?_eq_getElem hkl]; rfl
        rw [eg] at e1
        obtain ⟨t, ht⟩ : ∃ t, t = left[k]'hkl := ⟨_, rfl⟩
        rw [← ht] at e1
        simp only [← ht] at HKR
        clear ht eg hne
        have HOL := Lib.hid (show out.length ≤ 1000000 by have := HS.out.len; omega)
        have hkl' : (k : Int) < left.length := by omega
        have HK := Lib.hid hkl
        go_wp2_with (first
          | (go_at_call 51; refine (c2.out).mono ?_; rintro e w3 ⟨rfl, hb3⟩
             have b30 := (hb3.cell (p := ⟨w1.heap.size, 0, none⟩) hBw).trans b0
             obtain ⟨_, eA, _, r3⟩ := HKR.out w3 hb3
             obtain rfl := Option.some.inj eA
             have HB3 := Lib.hid hb3
             have HO3 := Lib.hid (HS.out.out_.below hb3 (Nat.le_refl _))
             have HT3 := Lib.hid (HTL.out.below hb3 (Nat.le_refl _))
             have HX3 := Lib.hid (show Boxed w3 w1.heap.size _ _ from (hb3.block _ HX.out.lt).trans HX.out)
             have HZ3 := Lib.hid (show w1.heap.size + 1 ≤ w3.heap.size by have := HX3.out.lt; omega)
             clear hb3)
          | (at_builtin; refine append_tr w3 rfl _ _ rfl (w1.heap.size + 1) _ out (bs t) rfl rfl (by exact HO3.out) HOL.out HZ3.out ?_; intro v' w4 ht4 hb4
             have b40 := (hb4.cell (p := ⟨w1.heap.size, 0, none⟩) (by simp)).trans b30
             have HB4 := Lib.hid hb4
             have HO4 := Lib.hid ht4
             have HT4 := Lib.hid (HT3.out.at_lt hb4 (fun g hg => by have := HLOW.out g hg; omega))
             have HX4 := Lib.hid (show Boxed w4 w1.heap.size _ _ from (hb4.block _ (by omega)).trans HX3.out)
             clear hb4 ht4)
          | (go_at_call 55; refine (Delete_tr HT4.out HK.out).mono ?_; rintro e w5 ⟨rfl, ht5, hg5⟩
             have HX5 := Lib.hid (HX4.out.kept hg5 (fun q => by have := HLOW.out _ q.symm; omega))
             have b50 := HX5.out.cell
             have b51 := HX5.out.frozen
             have HT5 := Lib.hid ht5
             have HG5 := Lib.hid hg5
             clear ht5 hg5))
        have hE : (left.eraseIdx k).length = left.length - 1 := by rw [List.length_eraseIdx, if_pos HK.out]
        have HE := Lib.hid hE
        clear hE
        go_roundg (left.length - 1)
        case measure => have := HLN.out; omega
        case rel =>
          have hgl : ∀ g, (Value.slice (some ad) left.length uC).ownBlock = some g → g < w1.heap.size := HLOW.out
          have hs := grownBy_setCell' w5 w1.heap.size (.slice (some ad) (left.eraseIdx k).length uC)
          refine ⟨left.eraseIdx k, out ++ [t], HE.out, ?_, ?_, ⟨_, HX5.out.set _, HT5.out.kept hs (.inr (fun q => by have := hgl _ q; omega)), hgl⟩, fun x hx => HS.out.mem x (List.mem_of_mem_eraseIdx hx), ?_, ?_⟩
          · rw [HE.out]; exact e1.out.symm
          · have h4 := HO4.out
            rw [tx_bs] at h4
            exact (h4.kept HG5.out (.inr (fun q => by
              have h1 := hgl ad.block rfl
              exact h4.ne (k := ad.block) (by omega) q))).kept hs (.inr (fun q => by
                have h5 := h4.kept HG5.out (.inr (fun q => by
                  have h1 := hgl ad.block rfl
                  exact h4.ne (k := ad.block) (by omega) q))
                exact h5.ne (k := w1.heap.size) (by omega) q))
          · have := HS.out.len; have := HE.out; have := HK.out; rw [List.length_append]; simp; omega
          · have z1 := HB.out.size
            have z2 := HB3.out.size
            have z3 := HB4.out.size
            have hw1 : w0.heap.size ≤ w1.heap.size := HB1.out.size
            have q4 : Below w0.heap.size w0 w4 := (HB.out.trans (HB3.out.mono z1)).trans (HB4.out.mono (by omega))
            exact (q4.grown HG5.out q4.size (fun g hg => (HTL.out.lt g hg).1)).setCell (p := ⟨w1.heap.size, 0, none⟩) hw1 _
      · rw [if_neg hkl] at c2 e1
        clear hkl
        go_wp2_with (go_at_call 51; refine (c2.out).mono ?_; rintro e w3 ⟨rfl, hb3⟩)
        go_ret2
        exact ⟨⟨_, by rw [e1.out]; rfl, by rw [e1.out]; exact TR.nil _ _⟩, HBW.out.trans (hb3.mono HBW.out.size)⟩


set_option maxHeartbeats 2000000 in
set_option maxRecDepth 100000 in
theorem Order_any (A : Option Addr) (c : Nat) (l : List Plc) (w : World) (h : PlsOk w A l) :
    Calls Try.prog 11 #[.slice A l.length c] w fun e w' => TxRes w' w.heap.size e (orderT l) (orderErr l) ∧ Below w.heap.size w w' := by
  have c1 := Lib.hid (ready_any A c l w h)
  have c2 := Lib.hid (fun (e : grErr l = 0) W (hb : Below w.heap.size w W) => Sorted_any A c l W (h.below hb) (grErr_ok e).1)
  obtain ⟨E, hE⟩ : ∃ E, E = orderErr l := ⟨_, rfl⟩
  have hO : orderT l = if E ≠ 0 then [] else (sortedT l).getD [] := by rw [hE]; rfl
  rw [← hE]
  unfold orderErr at hE
  clear h
  obtain ⟨N, hN⟩ : ∃ N, N = orderT l := ⟨_, rfl⟩
  rw [← hN] at hO ⊢
  clear hN
  generalize sortedT l = so at *
  generalize grErr l = ge at *
  by_cases t1 : ge = 0
  · obtain rfl := t1
    rw [if_neg (by omega)] at hE
    have c3 := Lib.hid (c2.out rfl)
    clear c2
    cases so with
    | none =>
      rw [if_pos (by rfl)] at hE
      subst hE
      rw [if_pos (by omega)] at hO
      subst hO
      go_enter Try.func11, Try.ntmps11
      go_wp2_with (first
        | (go_at_call 28; refine (c1.out).mono ?_; rintro e w1 ⟨rfl, hb1⟩)
        | (go_at_call 29; refine (c3.out _ hb1).mono ?_; rintro e w2 ⟨⟨v, rfl, ht2⟩, hb2⟩; have HB := Lib.hid hb2; clear ht2 hb2))
      go_ret2
      exact ⟨⟨_, rfl, TR.nil _ _⟩, hb1.trans (HB.out.mono hb1.size)⟩
    | some out =>
      rw [if_neg (by simp)] at hE
      subst hE
      rw [if_neg (by omega), Option.getD_some] at hO
      subst hO
      go_enter Try.func11, Try.ntmps11
      go_wp2_with (first
        | (go_at_call 28; refine (c1.out).mono ?_; rintro e w1 ⟨rfl, hb1⟩)
        | (go_at_call 29; refine (c3.out _ hb1).mono ?_; rintro e w2 ⟨⟨v, rfl, ht2⟩, hb2⟩; have HT := Lib.hid ht2; have HB := Lib.hid hb2; clear ht2 hb2))
      go_ret2
      exact ⟨⟨_, rfl, HT.out.more hb1.size⟩, hb1.trans (HB.out.mono hb1.size)⟩
  · rw [if_pos t1] at hE
    have t1' : (ge != 0) = true := by simp [t1]
    subst hE
    rw [if_pos t1] at hO
    subst hO
    clear t1 c2
    go_enter Try.func11, Try.ntmps11
    go_wp2_with (first | (go_at_call 28; (with_reducible refine (c1.out).mono ?_); rintro e w1 ⟨rfl, hb1⟩))
    go_ret2
    exact ⟨⟨_, rfl, TR.nil _ _⟩, hb1⟩

end Go.Proofs.Ytgkpbndeljnjcaa
