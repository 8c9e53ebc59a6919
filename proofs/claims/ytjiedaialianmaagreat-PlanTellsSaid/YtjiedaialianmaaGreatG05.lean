import Derived.Test.YtjiedaialianmaaGreatG03
import Derived.Maps.AppendAt
import Derived.OwnWalk
import Derived.RangeFuncBox
import Derived.Test.YtjiedaialianmaaGreatG01
import Derived.Sort.EncStr
import Derived.Test.YtjiedaialianmaaGreatShelf
import Derived.Shelf.Slices.In.SortNone
import Derived.Shelf.Slices.In.CompactS
import Derived.Sort.EveryDepth
import Derived.Sort.OwnSorted
import Derived.Sort.Grow
import Derived.Lib.OwnBridge
import Derived.Test.YtjiedaialianmaaGreatG04
import Derived.Deep.AppendLies
import Derived.RegionTactic
import Derived.Test.YtjiedaialianmaaGreatG02
import Derived.Lib.Builder
import Derived.Lib.AppendStr
import Derived.Lib.UnsafeStr
import Derived.Lib.OthersKept
import Derived.Lib.Walk
import Derived.Shelf.RegionOpenPlain
import Derived.Laws.Externs
section

namespace Go.Proofs.YtjiedaialianmaaGreat
open Go.RowKit

def strCells (s : ByteArray) : List Value := [.string s]
structure TextsOk (w : World) (A : Option Addr) (l : List ByteArray) : Prop where
  row : Row strCells 1 w A l
  len : l.length ≤ big
  each : ∀ s ∈ l, s.size ≤ big
theorem TextsOk.below {w w' : World} {A : Option Addr} {l : List ByteArray} (h : TextsOk w A l) (hb : Below w.heap.size w w') : TextsOk w' A l := ⟨h.row.below hb, h.len, h.each⟩
theorem text_at {w w' : World} {A : Option Addr} {l : List ByteArray} (h : Row strCells 1 w A l) (hb : Below w.heap.size w w') (i : Nat) (hi : i < l.length) :
    ∃ ad, A = some ad ∧ ad.block < w.heap.size ∧ w'.cell? (ad.add i) = some (.string l[i]) := by
  obtain ⟨ad, rfl, hab, hc⟩ := Row.at_ (enc := strCells) (k := 1) (fun _ => rfl) h i hi
  have e0 := hc 0 _ rfl
  rw [add_zero_, Nat.mul_one] at e0
  exact ⟨ad, rfl, hab, (hb.cell (by rw [block_of_add]; exact hab)).trans e0⟩
theorem box1 {w w0 : World} {a0 : Value} {t : TypeId} (h : w0 = w.alloc (.cells #[a0] t)) : w0.cell? ⟨w.heap.size, 0, none⟩ = some a0 ∧ w0.heap.size = w.heap.size + 1 ∧ Below w.heap.size w w0 := by
  subst h
  refine ⟨by rw [World.cell?_alloc_new]; rfl, by simp, (Below.refl _ _).alloc (Nat.le_refl _) _⟩


def TOwn (w : World) (base : Nat) (v : Value) (l : List ByteArray) : Prop := w.ownsRow base 9 1 v l.length (l.map Value.string)
theorem map_str (l : List ByteArray) : l.map Value.string = l.flatMap strCells := by
  induction l with
  | nil => rfl
  | cons x l ih => simp [List.flatMap_cons, ← ih, strCells]
theorem TOwn.form {w : World} {base : Nat} {v : Value} {l : List ByteArray} (h : TOwn w base v l) : ∃ (A : Option Addr) (c : Nat), v = .slice A l.length c ∧ Row strCells 1 w A l ∧ l.length ≤ c := by
  have hh := h
  rcases h.2 with ⟨rfl, e⟩ | ⟨g, cap, cur, rfl, e2, e3, e4, _⟩
  · rw [e]
    refine ⟨none, 0, rfl, ?_, Nat.le_refl _⟩
    have := Reads.of_own (show w.ownsRow base 9 1 (.slice none 0 0) 0 (l.map Value.string) from by
      have h1 := hh.1
      exact ⟨by rw [h1, e], .inl ⟨rfl, rfl⟩⟩)
    rw [map_str] at this
    unfold Row; rw [e]; exact this
  · refine ⟨some ⟨g, 0, none⟩, cap, rfl, ?_, e4⟩
    have := Reads.of_own hh
    rwa [map_str] at this
theorem TOwn.nil (w : World) (base : Nat) : TOwn w base (.slice none 0 0) [] := World.ownsRow_nil _ _ _ _
theorem TOwn.below {w w' : World} {base B : Nat} {v : Value} {l : List ByteArray} (h : TOwn w base v l) (hb : Below B w w') (hB : w.heap.size ≤ B) : TOwn w' base v l := by
  refine ⟨h.1, ?_⟩
  rcases h.2 with h0 | ⟨g, cap, cur, e1, e2, e3, e4⟩
  · exact .inl h0
  · refine .inr ⟨g, cap, cur, e1, e2, ?_, e4⟩
    have : g < w.heap.size := by
      rcases Nat.lt_or_ge g w.heap.size with hlt | hge
      · exact hlt
      · rw [Array.getElem?_eq_none hge] at e3; cases e3
    rw [hb.block g (by omega)]; exact e3
/-- one element of an own row, written in place -/
theorem TOwn.at_ {w : World} {base : Nat} {A : Option Addr} {n c : Nat} {l : List ByteArray} (h : TOwn w base (.slice A n c) l) (hn : n = l.length) (i : Nat) (hi : i < n) :
    ∃ g, A = some ⟨g, 0, none⟩ ∧ base ≤ g ∧ g < w.heap.size ∧ w.cell? ⟨g, i, none⟩ = some (.string (l.getD i ⟨#[]⟩)) ∧ w.frozen? ⟨g, i, none⟩ = false ∧ ∀ s, TOwn (w.setCell ⟨g, i, none⟩ (.string s)) base (.slice A n c) (l.set i s) := by
  subst hn
  obtain ⟨h1, h2⟩ := h
  rcases h2 with ⟨_, h0⟩ | ⟨g, cap, cur, hv, hg, hb, hnc, hcm, hsz, htk⟩
  · omega
  injection hv with ha hk hc
  subst ha
  have hcs : cur.toList[i]? = some (.string (l.getD i ⟨#[]⟩)) := by
    have : (cur.toList.take (l.length * 1))[i]? = some (.string (l.getD i ⟨#[]⟩)) := by
      rw [htk, List.getElem?_map, List.getD_eq_getElem?_getD, List.getElem?_eq_getElem hi]; rfl
    rwa [List.getElem?_take_of_lt (by omega)] at this
  have hcell : w.cell? ⟨g, i, none⟩ = some (.string (l.getD i ⟨#[]⟩)) := by
    simp only [World.cell?, hb]
    simpa using hcs
  refine ⟨g, rfl, hg, (Array.getElem?_eq_some_iff.1 hb).1, hcell, frozen_of_row _ _ _ _ _ hb, fun s => ?_⟩
  refine ⟨by simp, .inr ⟨g, cap, cur.setIfInBounds i (.string s), ?_, hg, heap_setCell_same w g _ cur _ _ hb, ?_, hcm, by simpa using hsz, ?_⟩⟩
  · rw [← hc]; simp
  · simpa using hnc
  · rw [Array.toList_setIfInBounds, List.take_set, List.length_set, htk, ← List.map_set]
theorem Tryz.infoStr : (Tryz.prog.info? 9).map (fun i => (i.zero, i.size, i.bytes)) = some (some (.string ⟨#[]⟩), 1, 16) := by kernel_rfl
theorem append_str (W : World) {ops : Array Oper} {rest : List Oper} {o : Oper} {a : Act} {Q : Exit → Act → World → Prop} (hgd : o.guard = none) (s x : Operand)
    (ho : o.op = .call { callee := .builtin .append, args := #[s, x], argTypes := #[27, 27] }) (base : Nat) (v : Value) (ns : List ByteArray) (n : ByteArray) (hs : a.eval s = v)
    (hx : a.eval x = .slice (some ⟨W.heap.size, 0, none⟩) 1 1) (hown : TOwn W base v ns) (hl : ns.length ≤ 1000000) (hbase : base ≤ W.heap.size)
    (h : ∀ v' w', TOwn w' base v' (ns ++ [n]) → Below base W w' → wpList Tryz.prog ops Q rest (a.put o.dst v') w') : wpList Tryz.prog ops Q (o :: rest) a (W.alloc (.cells #[.string n] 9)) := by
  obtain ⟨i0, hi, hz0, hz1, hz2⟩ := info_parts Tryz.infoStr
  refine wpList_append_own_at (W.alloc (.cells #[.string n] 9)) hgd s x 27 ho base 9 i0 (.string ⟨#[]⟩) 1 16 Tryz.underlying27 hi hz0 hz1 hz2 rfl (by decide) v ns.length (ns.map Value.string) hs (hown.alloc _) ⟨W.heap.size, 0, none⟩ 1 1 [.string n] hx rfl
    (cell_one_new _ _ _) (by simp [Value.oneCell']) (by simp only [maxLen]; omega) (by omega) (by simp; omega) ?_
  intro v' w1 hown' hgrow _ _
  refine h v' w1 ?_ (((Below.refl base W).alloc hbase _).grown hgrow (by simp; omega) (fun g hg => by
    rcases hown.2 with ⟨rfl, _⟩ | ⟨g', cap, cur, rfl, e2, _⟩
    · simp [Value.ownBlock] at hg
    · simp [Value.ownBlock] at hg; omega))
  unfold TOwn
  simpa using hown'

end Go.Proofs.YtjiedaialianmaaGreat
end

section

namespace Go.Proofs.YtjiedaialianmaaGreat
open Go.RowKit Go.Sort
open Gs (Tx)

abbrev bs (t : Tx) : ByteArray := ⟨t.toArray⟩
theorem bs_tx (s : ByteArray) : bs (tx s) = s := mk_tx s
theorem tx_bs (t : Tx) : tx (bs t) = t := tx_mk t
/-- a row of texts of the call's own, told by their bytes -/
def TR (w : World) (base : Nat) (v : Value) (ss : List Tx) : Prop := TOwn w base v (ss.map bs)
theorem enc_bs (ss : List Tx) : ss.map encStr = (ss.map bs).map Value.string := by rw [List.map_map]; rfl
theorem TR.own {w : World} {base : Nat} {v : Value} {ss : List Tx} (h : TR w base v ss) : w.ownsRow base 9 1 v ss.length (ss.map encStr) := by
  have := h; unfold TR TOwn at this; rw [List.length_map] at this; rw [enc_bs]; exact this
theorem TR.of_own {w : World} {base n : Nat} {v : Value} {ss : List Tx} (h : w.ownsRow base 9 1 v n (ss.map encStr)) : TR w base v ss := by
  have hn : n = ss.length := by have := h.1; simp at this; exact this.symm
  subst hn
  unfold TR TOwn; rw [List.length_map, ← enc_bs]; exact h
theorem TR.nil (w : World) (base : Nat) : TR w base (.slice none 0 0) [] := TOwn.nil _ _
theorem TR.form {w : World} {base : Nat} {v : Value} {ss : List Tx} (h : TR w base v ss) : ∃ (A : Option Addr) (c : Nat), v = .slice A ss.length c ∧ Row strCells 1 w A (ss.map bs) := by
  obtain ⟨A, c, e, hr, _⟩ := TOwn.form h
  rw [List.length_map] at e
  exact ⟨A, c, e, hr⟩
theorem TR.below {w w' : World} {base B : Nat} {v : Value} {ss : List Tx} (h : TR w base v ss) (hb : Below B w w') (hB : w.heap.size ≤ B) : TR w' base v ss := TOwn.below h hb hB
theorem TR.alloc {w : World} {base : Nat} {v : Value} {ss : List Tx} (h : TR w base v ss) (o : Obj) : TR (w.alloc o) base v ss := by unfold TR TOwn at *; exact h.alloc o
theorem TR.lt {w : World} {base : Nat} {v : Value} {ss : List Tx} (h : TR w base v ss) : ∀ g, v.ownBlock = some g → base ≤ g ∧ g < w.heap.size := fun g hg => World.ownsRow.lt h g hg
theorem TR.kept {w w' : World} {base : Nat} {v : Value} {ss : List Tx} {row : Option Nat} (h : TR w base v ss) (hg : w.grownBy w' row) (hne : v.ownBlock = none ∨ v.ownBlock ≠ row) : TR w' base v ss := World.ownsRow.kept h hg hne
theorem TR.more {w : World} {base base' : Nat} {v : Value} {ss : List Tx} (h : TR w base v ss) (hB : base' ≤ base) : TR w base' v ss := by
  refine ⟨h.1, ?_⟩
  rcases h.2 with h0 | ⟨g, cap, cur, e1, e2, e3⟩
  · exact .inl h0
  · exact .inr ⟨g, cap, cur, e1, by omega, e3⟩
abbrev TxRow (w : World) (A : Option Addr) (ss : List Tx) : Prop := Row strCells 1 w A (ss.map bs)
theorem tx_at {w w' : World} {A : Option Addr} {ss : List Tx} (h : TxRow w A ss) (hb : Below w.heap.size w w') (i : Nat) (hi : i < ss.length) :
    ∃ ad, A = some ad ∧ ad.block < w.heap.size ∧ w'.cell? (ad.add i) = some (.string (bs ss[i])) := by
  obtain ⟨ad, e, hab, hc⟩ := text_at h hb i (by simpa using hi)
  rw [List.getElem_map] at hc
  exact ⟨ad, e, hab, hc⟩
theorem append_tr (W : World) {ops : Array Oper} {rest : List Oper} {o : Oper} {a : Act} {Q : Exit → Act → World → Prop} (hgd : o.guard = none) (s x : Operand)
    (ho : o.op = .call { callee := .builtin .append, args := #[s, x], argTypes := #[27, 27] }) (base : Nat) (v : Value) (ss : List Tx) (n : ByteArray) (hs : a.eval s = v)
    (hx : a.eval x = .slice (some ⟨W.heap.size, 0, none⟩) 1 1) (hown : TR W base v ss) (hl : ss.length ≤ 1000000) (hbase : base ≤ W.heap.size)
    (h : ∀ v' w', TR w' base v' (ss ++ [tx n]) → Below base W w' → wpList Tryz.prog ops Q rest (a.put o.dst v') w') : wpList Tryz.prog ops Q (o :: rest) a (W.alloc (.cells #[.string n] 9)) :=
  append_str W hgd s x ho base v (ss.map bs) n hs hx hown (by simpa using hl) hbase (fun v' w' h1 h2 => h v' w' (by unfold TR; rw [List.map_append, List.map_cons, List.map_nil, bs_tx]; exact h1) h2)
theorem grown_of_below {w w' : World} (h : Below w.heap.size w w') (row : Option Nat) : w.grownBy w' row := ⟨h.os, h.tape, h.output, h.size, fun k hk _ => h.block k hk⟩
end Go.Proofs.YtjiedaialianmaaGreat
end

section

namespace Go.Proofs.YtjiedaialianmaaGreat
open Go.RowKit Go.Shelf Go.Sort

theorem Sort_any {w : World} {base n : Nat} {e : TypeId} {v : Value} {ss : List (List UInt8)} (hown : w.ownsRow base e 1 v n (ss.map encStr)) (hl : n ≤ big) :
    Calls Tryz.prog 219 #[v] w fun x w' => x = .returned (.tuple #[]) ∧ w'.ownsRow base e 1 v n ((Gs.msort ss).map encStr) ∧ w.grownBy w' v.ownBlock := by
  unfold big at hl
  by_cases hv : v = .slice none 0 0
  · subst hv
    have h0 : n = 0 := by
      rcases hown.2 with ⟨_, h⟩ | ⟨g, cap, cur, h, _⟩
      · exact h
      · cases h
    subst h0
    have hs : ss = [] := by
      have := hown.1; simp at this; exact this
    subst hs
    refine (Tryz.slices_Sort_string_none none 0 w).mono ?_
    rintro x w' ⟨rfl, rfl⟩
    exact ⟨rfl, by simpa [Gs.msort] using hown, World.grownBy.refl _ _⟩
  · obtain ⟨g, cap, rfl, hbg, hgl, hncap, hcm, hlen, hH⟩ := Lib.holds_of_ownsRow hown hv
    subst hlen
    refine (Tryz.slices_Sort_string g 0 cap ss w hH hgl (by omega)).mono ?_
    rintro x w' ⟨rfl, nn, os, rfl⟩
    rcases hown.2 with ⟨h0, _⟩ | ⟨g', cap', cur, hv', hbase, hb, h1, h2, h3, h4⟩
    · cases h0
    cases hv'
    exact ⟨rfl, ownsRow_sorted (ts := Gs.msort ss) (Gs.msort_perm ss).length_eq hbase hb h1 h2 h3, grownBy_sorted _⟩

theorem grownBy_put {w : World} {g n : Nat} (d : Array (List UInt8)) : w.grownBy (putRow encStr (Sort.ahead w n) g 0 d) (some g) := by
  refine ⟨rfl, rfl, rfl, by simp [putRow, mapBlock, Sort.ahead], fun k hk hne => ?_⟩
  have : g ≠ k := fun e => hne (by rw [e])
  simp [putRow, mapBlock, Sort.ahead, Array.getElem?_modify, this]

theorem Compact_any {w : World} {base n : Nat} {e : TypeId} {v : Value} {ss : List (List UInt8)} (hown : w.ownsRow base e 1 v n (ss.map encStr)) :
    Calls Tryz.prog 218 #[v] w fun x w' => (∃ A c, x = .returned (.slice A (Lib.compact ss).length c)) ∧ w.grownBy w' v.ownBlock := by
  by_cases hv : v = .slice none 0 0
  · subst hv
    have h0 : n = 0 := by
      rcases hown.2 with ⟨_, h⟩ | ⟨g, cap, cur, h, _⟩
      · exact h
      · cases h
    subst h0
    have hs : ss = [] := by
      have := hown.1; simp at this; exact this
    subst hs
    refine (Tryz.slices_Compact_string_empty none 0 w).mono ?_
    rintro x w' ⟨rfl, rfl⟩
    exact ⟨⟨_, _, rfl⟩, World.grownBy.refl _ _⟩
  · obtain ⟨g, cap, rfl, hbg, hgl, hncap, hcm, hlen, hH⟩ := Lib.holds_of_ownsRow hown hv
    subst hlen
    unfold maxLen at hcm
    refine (Tryz.slices_Compact_string g 0 cap ss w hH (by omega) (by omega)).mono ?_
    rintro x w' ⟨rfl, q, rfl⟩
    exact ⟨⟨_, _, rfl⟩, grownBy_put _⟩

end Go.Proofs.YtjiedaialianmaaGreat
end

section

namespace Go.Proofs.YtjiedaialianmaaGreat
open Go.RowKit Go.Sort
open Gs (Tx)

theorem txs_take {l : List Plc} {j : Nat} (h : j < l.length) : txs (l.take (j + 1)) = txs (l.take j) ++ [tx l[j].m.name] := by
  unfold txs; rw [List.take_succ_eq_append_getElem h, List.map_append]; rfl
theorem msort_length (l : List Tx) : (Gs.msort l).length = l.length := (Gs.msort_perm l).length_eq

set_option maxHeartbeats 4000000 in
set_option maxRecDepth 100000 in
theorem names_any (A : Option Addr) (c : Nat) (l : List Plc) (w : World) (h : Row Plc.cells 8 w A l) (h8 : l.length ≤ 8) :
    Calls Tryz.prog 156 #[.slice A l.length c] w fun e w' => (∃ v, e = .returned v ∧ TR w' w.heap.size v (Gs.msort (txs l))) ∧ Below w.heap.size w w' := by
  have HP := Lib.hid h
  clear h
  go_enter Tryz.func156, Tryz.ntmps156
  go_wp2_with fail
  go_loopw [3, 8] (fun v i wr => ∃ j : Nat, j ≤ l.length ∧ i = .int .i64 j ∧ TR wr w.heap.size v (txs (l.take j)) ∧ Below w.heap.size w wr) (fun _ i _ => l.length - (intOf i).toNat)
  case atStart => exact ⟨0, by omega, rfl, TR.nil _ _, Below.refl _ _⟩
  case round =>
    obtain ⟨j, hj, rfl, ht, hb⟩ := hrel
    have HT := Lib.hid ht
    have HB := Lib.hid hb
    clear ht
    have hwz := hb.size
    by_cases hlt : j < l.length
    · have hlt' : (j : Int) < l.length := by omega
      obtain ⟨ad, rfl, hab, h0, h1, h2, h3, h4, h5, h6, h7⟩ := plc_at HP.out hb j hlt
      have e1 := Lib.hid (txs_take hlt)
      have HL := Lib.hid (show (txs (l.take j)).length ≤ 8 by rw [txs_length, List.length_take]; omega)
      obtain ⟨y, hy⟩ : ∃ y, y = l[j]'hlt := ⟨_, rfl⟩
      rw [← hy] at h0 h1 h2 h3 h4 h5 h6 h7 e1
      obtain ⟨wx, hwx⟩ : ∃ wx, wx = wr.alloc (.cells #[.string y.m.name, .int .i64 y.m.major, .int .i64 y.m.minor, .string y.m.text, .slice y.m.eA y.m.ex.length y.m.eC, .slice y.m.iA y.m.im.length y.m.iC, .slice y.m.pA y.m.pa.length y.m.pC, .int .i64 y.first] 83) := ⟨_, rfl⟩
      obtain ⟨x0, x1, x2, x3, x4, x5, x6, x7, hzx, hbx⟩ := box8 hwx
      have hwx' := hwx.symm
      have hzy : wr.heap.size < wx.heap.size := by omega
      have HTX := Lib.hid (show TR wx w.heap.size _ (txs (l.take j)) from hwx ▸ HT.out.alloc _)
      have HBX := Lib.hid (hb.trans (hbx.mono hwz))
      have HZX := Lib.hid (show w.heap.size ≤ wx.heap.size by omega)
      clear hb hwx hbx hy hzx
      go_wp2_with (at_builtin; refine append_tr wx rfl _ _ rfl w.heap.size _ (txs (l.take j)) y.m.name rfl rfl (by exact HTX.out) (by have := HL.out; omega) HZX.out ?_; intro v' w4 ht4 hb4)
      go_roundw
      case rel => exact ⟨j + 1, by omega, by go_num, by rw [e1.out]; exact ht4, HBX.out.trans hb4⟩
      case measure => (simp [intOf]; try omega)
    · obtain rfl : j = l.length := by omega
      have HT2 := Lib.hid (show TR wr w.heap.size _ (txs l) by have := HT.out; rwa [List.take_length] at this)
      have HL := Lib.hid (show (txs l).length ≤ big by rw [txs_length]; unfold big; omega)
      clear hb
      go_wp2_with (go_at_call 219; refine (Sort_any HT2.out.own HL.out).mono ?_; rintro e w2 ⟨rfl, ht2, hg2⟩; have HT3 := Lib.hid ht2; have HG := Lib.hid hg2; clear ht2 hg2)
      go_ret
      exact ⟨⟨_, rfl, TR.of_own HT3.out⟩, HB.out.grown HG.out hwz (fun g hg => (HT2.out.lt g hg).1)⟩

set_option maxHeartbeats 1000000 in
set_option maxRecDepth 100000 in
theorem Twice_any (A : Option Addr) (c : Nat) (l : List Plc) (w : World) (h : Row Plc.cells 8 w A l) (h8 : l.length ≤ 8) :
    Calls Tryz.prog 155 #[.slice A l.length c] w fun e w' => e = .returned (.bool (isTwice l)) ∧ Below w.heap.size w w' := by
  have c1 := Lib.hid (names_any A c l w h h8)
  have e1 := Lib.hid (show isTwice l = decide ((Lib.compact (Gs.msort (txs l))).length < l.length) from rfl)
  generalize Gs.msort (txs l) = T at *
  generalize isTwice l = b at *
  clear h
  go_enter Tryz.func155, Tryz.ntmps155
  go_wp2_with (first
    | (go_at_call 156; refine (c1.out).mono ?_; rintro e w2 ⟨⟨v, rfl, ht2⟩, hb2⟩; have HT := Lib.hid ht2; have HB := Lib.hid hb2; clear ht2 hb2)
    | (go_at_call 218; refine (Compact_any HT.out.own).mono ?_; rintro e w3 ⟨⟨A3, c3, rfl⟩, hg3⟩; have HG := Lib.hid hg3; clear hg3))
  go_ret
  exact ⟨ret_bool (by rw [e1.out]), HB.out.grown HG.out HB.out.size (fun g hg => (HT.out.lt g hg).1)⟩

end Go.Proofs.YtjiedaialianmaaGreat
end

section

namespace Go.Proofs.YtjiedaialianmaaGreat
open Go.RowKit

theorem addr_kernel {k : Krn} {l : List Plc} {i : Imp} (h : i.mod = kernelBytes) : addrOf k l i = if k.major ≠ i.major ∨ k.minor < i.minor then (0, 4) else expAt k.ex i.name := by unfold addrOf; rw [if_pos h]
theorem addr_none {k : Krn} {l : List Plc} {i : Imp} (h : i.mod ≠ kernelBytes) (e : l.find? (named i.mod) = none) : addrOf k l i = (0, 5) := by unfold addrOf; rw [if_neg h, e]
theorem addr_some {k : Krn} {l : List Plc} {i : Imp} (h : i.mod ≠ kernelBytes) {x : Plc} (e : l.find? (named i.mod) = some x) :
    addrOf k l i = if x.m.major ≠ i.major ∨ x.m.minor < i.minor then (0, 4) else if (expAt x.m.ex i.name).2 ≠ 0 then (0, 5) else (4096 + 64 * x.first + (expAt x.m.ex i.name).1, 0) := by unfold addrOf; rw [if_neg h, e]
theorem expAt_rng {l : List Exp} {nm : ByteArray} {most : Int} (h : ∀ x ∈ l, 0 ≤ x.at_ ∧ x.at_ < most) (h0 : 0 < most) : 0 ≤ (expAt l nm).1 ∧ (expAt l nm).1 < most := by
  rcases find_cases (called nm) l with ⟨_, e2⟩ | ⟨j, hj, _, e2⟩
  · rw [expAt_none e2]; exact ⟨by simp, h0⟩
  · rw [expAt_some hj e2]; exact h _ (List.getElem_mem _)
theorem plc_facts {k : Krn} {l : List Plc} (h : placedErr k l = 0) {x : Plc} (hx : x ∈ l) : 0 ≤ x.first ∧ x.first ≤ 15 ∧ modErr x.m = 0 := by
  have h1 := (modsAll_ok (placed_ok h).2).2 x hx
  have := h1.2
  unfold resQ at this
  simp only [Bool.and_eq_true, decide_eq_true_eq] at this
  exact ⟨this.1, this.2, h1.1⟩
theorem ex_rng {m : Mod} (h : modErr m = 0) : ∀ x ∈ m.ex, 0 ≤ x.at_ ∧ x.at_ < 256 := fun x hx => by
  have f := modErr_facts h
  have := expErr_ok f.2.2.2.2.2.2.2.2.1 x hx
  exact ⟨this.2.1, by omega⟩

set_option maxHeartbeats 4000000 in
set_option maxRecDepth 100000 in
theorem Address_any (k : Krn) (A : Option Addr) (c : Nat) (l : List Plc) (i : Imp) (w : World) (hk : k.ok w) (h : PlsOk w A l) (hp : placedErr k l = 0) :
    Calls Tryz.prog 186 #[k.v, .slice A l.length c, i.v] w fun e w' => e = .returned (.tuple #[.int .i64 (addrOf k l i).1, .int .i64 (addrOf k l i).2]) ∧ Below w.heap.size w w' := by
  obtain ⟨wk, hwk⟩ : ∃ wk, wk = w.alloc (.cells #[.int .i64 k.major, .int .i64 k.minor, .slice k.eA k.ex.length k.eC] 24) := ⟨_, rfl⟩
  obtain ⟨g0, g1, g2, hzk, hbk⟩ := box3 hwk
  obtain ⟨w0, hw0⟩ : ∃ w0, w0 = wk.alloc (.cells #[.string i.mod, .string i.name, .int .i64 i.major, .int .i64 i.minor] 173) := ⟨_, rfl⟩
  obtain ⟨f0, f1, f2, f3, hz0, hb0⟩ := box4 hw0
  rw [hzk] at f0 f1 f2 f3 hz0 hb0
  have k0 := (hb0.cell (p := ⟨w.heap.size, 0, none⟩) (by simp)).trans g0
  have k1 := (hb0.cell (p := ⟨w.heap.size, 1, none⟩) (by simp)).trans g1
  have k2 := (hb0.cell (p := ⟨w.heap.size, 2, none⟩) (by simp)).trans g2
  have H0 := Lib.hid (show Below w.heap.size w w0 from hbk.trans (hb0.mono (by omega)))
  have HZ := Lib.hid hz0
  have hwk' := hwk.symm
  have hw0' := hw0.symm
  have kq := kernel_eq i.mod
  obtain ⟨R, hR⟩ : ∃ R, R = addrOf k l i := ⟨_, rfl⟩
  rw [← hR]
  have HL := h.len
  unfold big at HL
  have HP := Lib.hid h
  have HPE := Lib.hid hp
  have cK := Lib.hid (fun W (hb : Below w.heap.size w W) => export_any k.eA k.eC k.ex i.name W (hk.below hb).ex)
  clear hwk hw0 hbk hb0 hk h hp g0 g1 g2 hz0
  by_cases t0 : i.mod = kernelBytes
  · rw [addr_kernel t0] at hR
    rw [show decide (i.mod = kernelBytes) = true by simp [t0]] at kq
    clear t0
    by_cases t1 : k.major ≠ i.major
    · rw [if_pos (.inl t1)] at hR
      have t1' : (k.major != i.major) = true := by simp [t1]
      clear t1
      go_enter Tryz.func186, Tryz.ntmps186
      go_wp2_with fail
      go_quiet (fail)
      go_wp2_with fail
      go_ret2
      exact ⟨by rw [hR]; rfl, below_drewN H0.out _⟩
    have t1' : (k.major != i.major) = false := by simpa using t1
    by_cases t2 : k.minor < i.minor
    · rw [if_pos (.inr t2)] at hR
      clear t1
      go_enter Tryz.func186, Tryz.ntmps186
      go_wp2_with fail
      go_quiet (fail)
      go_wp2_with fail
      go_ret2
      exact ⟨by rw [hR]; rfl, below_drewN H0.out _⟩
    have t2' : decide (k.minor < i.minor) = false := by simpa using t2
    rw [if_neg (by simp only [not_or]; exact ⟨t1, t2⟩)] at hR
    rw [← hR] at cK
    clear t1 t2
    have hec := expAt_cases k.ex i.name
    have eo : expOk k.ex i.name = decide (R.2 = 0) := by unfold expOk; rw [← hR]
    rw [eo] at cK
    rw [← hR] at hec
    have hr := expAt_rng (nm := i.name) (fun x hx => ((krn_ok (placed_ok HPE.out).1) x hx).2) (by omega : (0 : Int) < 4096)
    rw [← hR] at hr
    clear eo hR
    obtain ⟨r1, r2⟩ := R
    simp only at hec hr cK ⊢
    by_cases u : r2 = 0
    · obtain rfl := u
      have q1 : wrap64 r1 = r1 := IntWalk.wrap64_in _ (by omega)
      go_enter Tryz.func186, Tryz.ntmps186
      go_wp2_with fail
      go_quiet (fail)
      go_wp2_with (go_at_call 236; refine (cK.out _ (below_drewN H0.out _)).mono ?_; rintro e w1 ⟨rfl, hb1⟩)
      go_ret2
      exact ⟨by simp, (below_drewN H0.out _).trans (hb1.mono (by have := H0.out.size; simpa using this))⟩
    · obtain ⟨rfl, rfl⟩ : r1 = 0 ∧ r2 = 5 := by omega
      go_enter Tryz.func186, Tryz.ntmps186
      go_wp2_with fail
      go_quiet (fail)
      go_wp2_with (go_at_call 236; refine (cK.out _ (below_drewN H0.out _)).mono ?_; rintro e w1 ⟨rfl, hb1⟩)
      go_ret2
      exact ⟨rfl, (below_drewN H0.out _).trans (hb1.mono (by have := H0.out.size; simpa using this))⟩
  · have kq' := kq
    rw [show decide (i.mod = kernelBytes) = false by simp [t0]] at kq
    clear kq'
    have hz0 := HZ.out
    have hz1 : w.heap.size + 1 < w0.heap.size := by omega
    have hz2 : w.heap.size < w0.heap.size := by omega
    have cP := Lib.hid (fun W (hb : Below w.heap.size w W) => Place_any A c l i.mod W (HP.out.row.below hb) (by unfold big; omega))
    have LD := Lib.hid (fun (nq : Nat) (W : World) (hb : Below (w0.drewN nq).heap.size (w0.drewN nq) W) => (below_drewN (Below.refl w0.heap.size w0) nq).trans (hb.mono (by simp)))
    clear hz0
    rcases find_cases (named i.mod) l with ⟨e1, e2⟩ | ⟨n, hn, e1, e2⟩
    · rw [addr_none t0 e2] at hR
      rw [e1] at cP
      clear e1 e2 t0
      go_enter Tryz.func186, Tryz.ntmps186
      go_wp2_with fail
      go_quiet (fail)
      go_wp2_with (go_at_call 124; refine (cP.out _ (below_drewN H0.out _)).mono ?_; rintro e w1 ⟨rfl, hb1'⟩; have hb1 := LD.out _ _ hb1'; obtain ⟨hc1, hf1⟩ := bcell hb1)
      go_ret2
      exact ⟨by rw [hR]; rfl, H0.out.trans (hb1.mono (by omega))⟩
    · rw [addr_some t0 e2] at hR
      rw [e1] at cP
      clear e1 e2 t0
      have hn' : (n : Int) < l.length := by omega
      have HK := Lib.hid (fun W (hbW : Below w.heap.size w W) => plc_at HP.out.row hbW n hn)
      obtain ⟨ad, rfl, hab, _⟩ := plc_at HP.out.row (Below.refl _ _) n hn
      have hmo := HP.out.each l[n] (List.getElem_mem _)
      obtain ⟨p1, p2, p3⟩ := plc_facts HPE.out (x := l[n]) (List.getElem_mem _)
      have cE := Lib.hid (fun W (hb : Below w.heap.size w W) => export_any (l[n]'hn).m.eA (l[n]'hn).m.eC (l[n]'hn).m.ex i.name W (hmo.below hb).ex)
      have hr := expAt_rng (nm := i.name) (ex_rng p3) (by omega : (0 : Int) < 256)
      have hec := expAt_cases (l[n]'hn).m.ex i.name
      obtain ⟨V, hV⟩ : ∃ V, V = expAt (l[n]'hn).m.ex i.name := ⟨_, rfl⟩
      have eo : expOk (l[n]'hn).m.ex i.name = decide (V.2 = 0) := by unfold expOk; rw [← hV]
      rw [eo] at cE
      rw [← hV] at cE hec hr hR
      have q1 : wrap64 ((l[n]'hn).first * 64) = (l[n]'hn).first * 64 := IntWalk.wrap64_in _ (by omega)
      have q2 : wrap64 (4096 + (l[n]'hn).first * 64) = 4096 + (l[n]'hn).first * 64 := IntWalk.wrap64_in _ (by omega)
      have q3 := Lib.hid (show wrap64 (4096 + (l[n]'hn).first * 64 + V.1) = 4096 + 64 * (l[n]'hn).first + V.1 by rw [IntWalk.wrap64_in _ (by omega)]; omega)
      have HBM := Lib.hid (show (ad.add (n * 8)).block < w.heap.size by rw [block_of_add]; exact hab)
      clear eo hV hmo p3
      -- the call of Place, and what lies behind it
      by_cases t1 : l[n].m.major ≠ i.major ∨ l[n].m.minor < i.minor
      · rw [if_pos t1] at hR
        by_cases t2 : l[n].m.major = i.major
        · have t3 : l[n].m.minor < i.minor := by rcases t1 with h | h; exact absurd t2 h; exact h
          have t2' : (l[n].m.major != i.major) = false := by simp [t2]
          clear t1 t2
          go_enter Tryz.func186, Tryz.ntmps186
          go_wp2_with fail
          go_quiet (fail)
          go_wp2_with (go_at_call 124; refine (cP.out _ (below_drewN H0.out _)).mono ?_; rintro e w1 ⟨rfl, hb1'⟩; have hb1 := LD.out _ _ hb1'; obtain ⟨hc1, hf1⟩ := bcell hb1; obtain ⟨_, ead, _, m0, m1, m2, m3, m4, m5, m6, m7⟩ := HK.out _ (H0.out.trans (hb1.mono (by omega))); obtain rfl := Option.some.inj ead; have hwz := hb1.size; have hz3 : w.heap.size + 1 < w1.heap.size := (by omega); have hz4 : w.heap.size < w1.heap.size := (by omega); have hbm : (ad.add (n * 8)).block < w1.heap.size := Nat.lt_of_lt_of_le HBM.out (by omega))
          go_quiet (fail)
          go_wp2_with fail
          go_ret2
          exact ⟨by rw [hR]; rfl, below_drewN ((H0.out.trans (hb1.mono (by omega))).alloc (by omega) _) _⟩
        · have t2' : (l[n].m.major != i.major) = true := by simp [t2]
          clear t1 t2
          go_enter Tryz.func186, Tryz.ntmps186
          go_wp2_with fail
          go_quiet (fail)
          go_wp2_with (go_at_call 124; refine (cP.out _ (below_drewN H0.out _)).mono ?_; rintro e w1 ⟨rfl, hb1'⟩; have hb1 := LD.out _ _ hb1'; obtain ⟨hc1, hf1⟩ := bcell hb1; obtain ⟨_, ead, _, m0, m1, m2, m3, m4, m5, m6, m7⟩ := HK.out _ (H0.out.trans (hb1.mono (by omega))); obtain rfl := Option.some.inj ead; have hwz := hb1.size; have hz3 : w.heap.size + 1 < w1.heap.size := (by omega); have hz4 : w.heap.size < w1.heap.size := (by omega); have hbm : (ad.add (n * 8)).block < w1.heap.size := Nat.lt_of_lt_of_le HBM.out (by omega))
          go_quiet (fail)
          go_wp2_with fail
          go_ret2
          exact ⟨by rw [hR]; rfl, below_drewN ((H0.out.trans (hb1.mono (by omega))).alloc (by omega) _) _⟩
      · rw [if_neg t1] at hR
        have t2' : (l[n].m.major != i.major) = false := by simp; omega
        have t3' : decide (l[n].m.minor < i.minor) = false := by simp; omega
        clear t1
        obtain ⟨v1, v2⟩ := V
        simp only at hec hr cE hR q3
        by_cases u : v2 = 0
        · obtain rfl := u
          rw [if_neg (by simp)] at hR
          go_enter Tryz.func186, Tryz.ntmps186
          go_wp2_with fail
          go_quiet (fail)
          go_wp2_with (go_at_call 124; refine (cP.out _ (below_drewN H0.out _)).mono ?_; rintro e w1 ⟨rfl, hb1'⟩; have hb1 := LD.out _ _ hb1'; obtain ⟨hc1, hf1⟩ := bcell hb1; obtain ⟨_, ead, _, m0, m1, m2, m3, m4, m5, m6, m7⟩ := HK.out _ (H0.out.trans (hb1.mono (by omega))); obtain rfl := Option.some.inj ead; have hwz := hb1.size; have hz3 : w.heap.size + 1 < w1.heap.size := (by omega); have hz4 : w.heap.size < w1.heap.size := (by omega); have hbm : (ad.add (n * 8)).block < w1.heap.size := Nat.lt_of_lt_of_le HBM.out (by omega))
          go_quiet (fail)
          go_wp2_with (go_at_call 236; refine (cE.out _ (below_drewN ((H0.out.trans (hb1.mono (by omega))).alloc (by omega) _) _)).mono ?_; rintro e w2 ⟨rfl, hb2⟩)
          go_ret2
          exact ⟨(ret_ints (b := 4096 + 64 * (l[n]'hn).first + v1) (d := 0) (by first | exact q3.out | omega) rfl).trans (by rw [hR]), (below_drewN ((H0.out.trans (hb1.mono (by omega))).alloc (by omega) _) _).trans (hb2.mono (by simp; omega))⟩
        · obtain ⟨rfl, rfl⟩ : v1 = 0 ∧ v2 = 5 := by omega
          rw [if_pos (by simp)] at hR
          go_enter Tryz.func186, Tryz.ntmps186
          go_wp2_with fail
          go_quiet (fail)
          go_wp2_with (go_at_call 124; refine (cP.out _ (below_drewN H0.out _)).mono ?_; rintro e w1 ⟨rfl, hb1'⟩; have hb1 := LD.out _ _ hb1'; obtain ⟨hc1, hf1⟩ := bcell hb1; obtain ⟨_, ead, _, m0, m1, m2, m3, m4, m5, m6, m7⟩ := HK.out _ (H0.out.trans (hb1.mono (by omega))); obtain rfl := Option.some.inj ead; have hwz := hb1.size; have hz3 : w.heap.size + 1 < w1.heap.size := (by omega); have hz4 : w.heap.size < w1.heap.size := (by omega); have hbm : (ad.add (n * 8)).block < w1.heap.size := Nat.lt_of_lt_of_le HBM.out (by omega))
          go_quiet (fail)
          go_wp2_with (go_at_call 236; refine (cE.out _ (below_drewN ((H0.out.trans (hb1.mono (by omega))).alloc (by omega) _) _)).mono ?_; rintro e w2 ⟨rfl, hb2⟩)
          go_ret2
          exact ⟨by rw [hR]; rfl, (below_drewN ((H0.out.trans (hb1.mono (by omega))).alloc (by omega) _) _).trans (hb2.mono (by simp; omega))⟩

end Go.Proofs.YtjiedaialianmaaGreat
end

section

namespace Go.Proofs.YtjiedaialianmaaGreat
open Go.RowKit

/-- where an export is, as the document tells it -/
def expAtR (l : List Exp) (nm : ByteArray) : Int := if (expAt l nm).2 = 0 then (expAt l nm).1 else -1
theorem expAtR_hit {l : List Exp} {nm : ByteArray} {j : Nat} (h : j < l.length) (e : idxOf (called nm) l = j) : expAtR l nm = l[j].at_ := by
  rcases find_cases (called nm) l with ⟨e1, _⟩ | ⟨n, hn, e1, e2⟩
  · omega
  · obtain rfl : n = j := by omega
    unfold expAtR; rw [expAt_some hn e2]; rfl
theorem expAtR_miss {l : List Exp} {nm : ByteArray} (e : idxOf (called nm) l = -1) : expAtR l nm = -1 := by
  rcases find_cases (called nm) l with ⟨_, e2⟩ | ⟨n, hn, e1, _⟩
  · unfold expAtR; rw [expAt_none e2]; rfl
  · omega

set_option maxHeartbeats 2000000 in
set_option maxRecDepth 100000 in
theorem PlaceOf_any (A : Option Addr) (c : Nat) (l : List Plc) (nm : ByteArray) (w : World) (h : Row Plc.cells 8 w A l) (hl : l.length ≤ big) :
    Calls Tryz.prog 105 #[.slice A l.length c, .string nm] w fun e w' => e = .returned (.int .i64 (idxOf (named nm) l)) ∧ Below w.heap.size w w' := by
  unfold big at hl
  have HP := Lib.hid h
  clear h
  obtain ⟨R, hR⟩ : ∃ R, R = idxOf (named nm) l := ⟨_, rfl⟩
  rw [← hR]
  have HR := Lib.hid hR
  clear hR
  go_enter Tryz.func105, Tryz.ntmps105
  go_wp2_with fail
  go_loopw [5] (fun i wr => ∃ j : Nat, j ≤ l.length ∧ i = .int .i64 j ∧ (∀ k (hk : k < l.length), k < j → named nm l[k] = false) ∧ Below w.heap.size w wr) (fun i _ => l.length - (intOf i).toNat)
  case atStart => exact ⟨0, by omega, rfl, by omega, Below.refl _ _⟩
  case round =>
    obtain ⟨j, hj, rfl, hN, hb⟩ := hrel
    have HN := Lib.hid hN
    have HB := Lib.hid hb
    clear hN
    by_cases hlt : j < l.length
    · have hlt' : (j : Int) < l.length := by omega
      obtain ⟨ad, rfl, hab, h0, h1, h2, h3, h4, h5, h6, h7⟩ := plc_at HP.out hb j hlt
      clear hb
      by_cases he : l[j].m.name = nm
      · have e1 := Lib.hid (idxOf_some hlt HN.out (show named nm l[j] = true by simp [named, he]))
        have he' := str_eq he
        have HEE := Lib.hid he
        clear he
        have hrr := Lib.hid (HR.out.trans e1.out)
        go_wp2_with fail
        go_ret
        exact ⟨ret_int hrr.out.symm, HB.out⟩
      · have he' := str_ne he
        have HEE := Lib.hid (show named nm l[j] = false by simp [named, he])
        clear he
        go_wp2_with fail
        go_roundw
        case rel => exact ⟨j + 1, by omega, by go_num, fun k hk hkj => by rcases Nat.lt_succ_iff_lt_or_eq.1 hkj with h | rfl; exact HN.out k hk h; exact HEE.out, HB.out⟩
        case measure => (simp [intOf]; try omega)
    · have e1 := Lib.hid (idxOf_none (q := named nm) (l := l) (fun k hk => HN.out k hk (by omega)))
      have hrr := Lib.hid (HR.out.trans e1.out)
      go_wp2_with fail
      go_ret
      exact ⟨ret_int hrr.out.symm, HB.out⟩

set_option maxHeartbeats 2000000 in
set_option maxRecDepth 100000 in
theorem exportAt_any (A : Option Addr) (c : Nat) (l : List Exp) (nm : ByteArray) (w : World) (h : Row Exp.cells 2 w A l) (hl : l.length ≤ big) :
    Calls Tryz.prog 286 #[.slice A l.length c, .string nm] w fun e w' => e = .returned (.int .i64 (expAtR l nm)) ∧ Below w.heap.size w w' := by
  unfold big at hl
  have HP := Lib.hid h
  clear h
  obtain ⟨R, hR⟩ : ∃ R, R = expAtR l nm := ⟨_, rfl⟩
  rw [← hR]
  have HR := Lib.hid hR
  clear hR
  go_enter Tryz.func286, Tryz.ntmps286
  go_wp2_with fail
  go_loopw [5] (fun i wr => ∃ j : Nat, j ≤ l.length ∧ i = .int .i64 j ∧ (∀ k (hk : k < l.length), k < j → called nm l[k] = false) ∧ Below w.heap.size w wr) (fun i _ => l.length - (intOf i).toNat)
  case atStart => exact ⟨0, by omega, rfl, by omega, Below.refl _ _⟩
  case round =>
    obtain ⟨j, hj, rfl, hN, hb⟩ := hrel
    have HN := Lib.hid hN
    have HB := Lib.hid hb
    clear hN
    by_cases hlt : j < l.length
    · have hlt' : (j : Int) < l.length := by omega
      obtain ⟨ad, rfl, hab, h0, h1⟩ := exp_at HP.out hb j hlt
      clear hb
      by_cases he : l[j].name = nm
      · have e1 := Lib.hid (idxOf_some hlt HN.out (show called nm l[j] = true by simp [called, he]))
        have he' := str_eq he
        have HEE := Lib.hid he
        clear he
        have hrr := Lib.hid (HR.out.trans (expAtR_hit hlt e1.out))
        go_wp2_with fail
        go_ret
        exact ⟨ret_int hrr.out.symm, HB.out⟩
      · have he' := str_ne he
        have HEE := Lib.hid (show called nm l[j] = false by simp [called, he])
        clear he
        go_wp2_with fail
        go_roundw
        case rel => exact ⟨j + 1, by omega, by go_num, fun k hk hkj => by rcases Nat.lt_succ_iff_lt_or_eq.1 hkj with h | rfl; exact HN.out k hk h; exact HEE.out, HB.out⟩
        case measure => (simp [intOf]; try omega)
    · have e1 := Lib.hid (idxOf_none (q := called nm) (l := l) (fun k hk => HN.out k hk (by omega)))
      have hrr := Lib.hid (HR.out.trans (expAtR_miss e1.out))
      go_wp2_with fail
      go_ret
      exact ⟨ret_int hrr.out.symm, HB.out⟩

set_option maxHeartbeats 4000000 in
set_option maxRecDepth 100000 in
theorem AddressOf_any (k : Krn) (A : Option Addr) (c : Nat) (l : List Plc) (i : Imp) (w : World) (hk : k.ok w) (h : PlsOk w A l) (hp : placedErr k l = 0) :
    Calls Tryz.prog 258 #[k.v, .slice A l.length c, i.v] w fun e w' => e = .returned (.tuple #[.int .i64 (addrOf k l i).1, .int .i64 (addrOf k l i).2]) ∧ Below w.heap.size w w' := by
  obtain ⟨wk, hwk⟩ : ∃ wk, wk = w.alloc (.cells #[.int .i64 k.major, .int .i64 k.minor, .slice k.eA k.ex.length k.eC] 24) := ⟨_, rfl⟩
  obtain ⟨g0, g1, g2, hzk, hbk⟩ := box3 hwk
  obtain ⟨w0, hw0⟩ : ∃ w0, w0 = wk.alloc (.cells #[.string i.mod, .string i.name, .int .i64 i.major, .int .i64 i.minor] 173) := ⟨_, rfl⟩
  obtain ⟨f0, f1, f2, f3, hz0, hb0⟩ := box4 hw0
  rw [hzk] at f0 f1 f2 f3 hz0 hb0
  have k0 := (hb0.cell (p := ⟨w.heap.size, 0, none⟩) (by simp)).trans g0
  have k1 := (hb0.cell (p := ⟨w.heap.size, 1, none⟩) (by simp)).trans g1
  have k2 := (hb0.cell (p := ⟨w.heap.size, 2, none⟩) (by simp)).trans g2
  have H0 := Lib.hid (show Below w.heap.size w w0 from hbk.trans (hb0.mono (by omega)))
  have HZ := Lib.hid hz0
  have hwk' := hwk.symm
  have hw0' := hw0.symm
  have kq := kernel_eq i.mod
  obtain ⟨R, hR⟩ : ∃ R, R = addrOf k l i := ⟨_, rfl⟩
  rw [← hR]
  have HL := h.len
  unfold big at HL
  have HP := Lib.hid h
  have HPE := Lib.hid hp
  have cK := Lib.hid (fun W (hb : Below w.heap.size w W) => exportAt_any k.eA k.eC k.ex i.name W (hk.below hb).ex.1 (hk.below hb).ex.2.1)
  clear hwk hw0 hbk hb0 hk h hp g0 g1 g2 hz0
  by_cases t0 : i.mod = kernelBytes
  · rw [addr_kernel t0] at hR
    rw [show decide (i.mod = kernelBytes) = true by simp [t0]] at kq
    clear t0
    by_cases t1 : k.major ≠ i.major
    · rw [if_pos (.inl t1)] at hR
      have t1' : (k.major != i.major) = true := by simp [t1]
      clear t1
      go_enter Tryz.func258, Tryz.ntmps258
      go_wp2_with fail
      go_ret2
      exact ⟨by rw [hR]; rfl, H0.out⟩
    have t1' : (k.major != i.major) = false := by simpa using t1
    by_cases t2 : k.minor < i.minor
    · rw [if_pos (.inr t2)] at hR
      clear t1
      go_enter Tryz.func258, Tryz.ntmps258
      go_wp2_with fail
      go_ret2
      exact ⟨by rw [hR]; rfl, H0.out⟩
    have t2' : decide (k.minor < i.minor) = false := by simpa using t2
    rw [if_neg (by simp only [not_or]; exact ⟨t1, t2⟩)] at hR
    clear t1 t2
    have hec := expAt_cases k.ex i.name
    have hr := expAt_rng (nm := i.name) (fun x hx => ((krn_ok (placed_ok HPE.out).1) x hx).2) (by omega : (0 : Int) < 4096)
    unfold expAtR at cK
    rw [← hR] at cK hec hr
    clear hR
    obtain ⟨r1, r2⟩ := R
    simp only at hec hr cK ⊢
    by_cases u : r2 = 0
    · obtain rfl := u
      rw [if_pos rfl] at cK
      have q1 : decide (r1 < 0) = false := by simp; omega
      go_enter Tryz.func258, Tryz.ntmps258
      go_wp2_with (first | (go_at_call 286; (with_reducible refine (cK.out _ H0.out).mono ?_); rintro e w1 ⟨rfl, hb1⟩))
      go_ret2
      exact ⟨rfl, H0.out.trans (hb1.mono H0.out.size)⟩
    · obtain ⟨rfl, rfl⟩ : r1 = 0 ∧ r2 = 5 := by omega
      rw [if_neg u] at cK
      go_enter Tryz.func258, Tryz.ntmps258
      go_wp2_with (first | (go_at_call 286; (with_reducible refine (cK.out _ H0.out).mono ?_); rintro e w1 ⟨rfl, hb1⟩))
      go_ret2
      exact ⟨rfl, H0.out.trans (hb1.mono H0.out.size)⟩
  · rw [show decide (i.mod = kernelBytes) = false by simp [t0]] at kq
    have hz0 := HZ.out
    have hz1 : w.heap.size + 1 < w0.heap.size := by omega
    have hz2 : w.heap.size < w0.heap.size := by omega
    have cP := Lib.hid (PlaceOf_any A c l i.mod w0 (HP.out.row.below H0.out) (by unfold big; omega))
    clear hz0
    rcases find_cases (named i.mod) l with ⟨e1, e2⟩ | ⟨n, hn, e1, e2⟩
    · rw [addr_none t0 e2] at hR
      rw [e1] at cP
      clear e1 e2 t0
      go_enter Tryz.func258, Tryz.ntmps258
      go_wp2_with (first | (go_at_call 105; (with_reducible refine (cP.out).mono ?_); rintro e w1 ⟨rfl, hb1⟩; obtain ⟨hc1, hf1⟩ := bcell hb1; have hz1 : w.heap.size < w1.heap.size := by have := hb1.size; (try simp at this); omega))
      go_ret2
      exact ⟨by rw [hR]; rfl, H0.out.trans (hb1.mono (by omega))⟩
    · rw [addr_some t0 e2] at hR
      rw [e1] at cP
      clear e1 e2 t0
      have hn' : (n : Int) < l.length := by omega
      have HK := Lib.hid (fun W (hbW : Below w.heap.size w W) => plc_at HP.out.row hbW n hn)
      obtain ⟨ad, rfl, hab, _⟩ := plc_at HP.out.row (Below.refl _ _) n hn
      have hmo := HP.out.each l[n] (List.getElem_mem _)
      obtain ⟨p1, p2, p3⟩ := plc_facts HPE.out (x := l[n]) (List.getElem_mem _)
      have cE := Lib.hid (fun W (hb : Below w.heap.size w W) => exportAt_any (l[n]'hn).m.eA (l[n]'hn).m.eC (l[n]'hn).m.ex i.name W (hmo.below hb).ex.1 (hmo.below hb).ex.2.1)
      have hr := expAt_rng (nm := i.name) (ex_rng p3) (by omega : (0 : Int) < 256)
      have hec := expAt_cases (l[n]'hn).m.ex i.name
      obtain ⟨V, hV⟩ : ∃ V, V = expAt (l[n]'hn).m.ex i.name := ⟨_, rfl⟩
      unfold expAtR at cE
      rw [← hV] at cE hec hr hR
      have q1 : wrap64 (64 * (l[n]'hn).first) = 64 * (l[n]'hn).first := IntWalk.wrap64_in _ (by omega)
      have q2 : wrap64 (4096 + 64 * (l[n]'hn).first) = 4096 + 64 * (l[n]'hn).first := IntWalk.wrap64_in _ (by omega)
      have q3 := Lib.hid (show wrap64 (4096 + 64 * (l[n]'hn).first + V.1) = 4096 + 64 * (l[n]'hn).first + V.1 by rw [IntWalk.wrap64_in _ (by omega)])
      have HBM := Lib.hid (show (ad.add (n * 8)).block < w.heap.size by rw [block_of_add]; exact hab)
      clear hV hmo p3
      by_cases t1 : l[n].m.major ≠ i.major ∨ l[n].m.minor < i.minor
      · rw [if_pos t1] at hR
        by_cases t2 : l[n].m.major = i.major
        · have t3 : l[n].m.minor < i.minor := by rcases t1 with h | h; exact absurd t2 h; exact h
          have t2' : (l[n].m.major != i.major) = false := by simp [t2]
          clear t1 t2
          go_enter Tryz.func258, Tryz.ntmps258
          go_wp2_with (go_at_call 105; refine (cP.out).mono ?_; rintro e w1 ⟨rfl, hb1⟩; obtain ⟨hc1, hf1⟩ := bcell hb1; obtain ⟨_, ead, _, m0, m1, m2, m3, m4, m5, m6, m7⟩ := HK.out _ (H0.out.trans (hb1.mono (by omega))); obtain rfl := Option.some.inj ead; have hwz := hb1.size; have hz3 : w.heap.size + 1 < w1.heap.size := (by omega); have hz4 : w.heap.size < w1.heap.size := (by omega); have hbm : (ad.add (n * 8)).block < w1.heap.size := Nat.lt_of_lt_of_le HBM.out (by omega))
          go_ret2
          exact ⟨by rw [hR]; rfl, (H0.out.trans (hb1.mono (by omega))).alloc (by omega) _⟩
        · have t2' : (l[n].m.major != i.major) = true := by simp [t2]
          clear t1 t2
          go_enter Tryz.func258, Tryz.ntmps258
          go_wp2_with (go_at_call 105; refine (cP.out).mono ?_; rintro e w1 ⟨rfl, hb1⟩; obtain ⟨hc1, hf1⟩ := bcell hb1; obtain ⟨_, ead, _, m0, m1, m2, m3, m4, m5, m6, m7⟩ := HK.out _ (H0.out.trans (hb1.mono (by omega))); obtain rfl := Option.some.inj ead; have hwz := hb1.size; have hz3 : w.heap.size + 1 < w1.heap.size := (by omega); have hz4 : w.heap.size < w1.heap.size := (by omega); have hbm : (ad.add (n * 8)).block < w1.heap.size := Nat.lt_of_lt_of_le HBM.out (by omega))
          go_ret2
          exact ⟨by rw [hR]; rfl, (H0.out.trans (hb1.mono (by omega))).alloc (by omega) _⟩
      · rw [if_neg t1] at hR
        have t2' : (l[n].m.major != i.major) = false := by simp; omega
        have t3' : decide (l[n].m.minor < i.minor) = false := by simp; omega
        clear t1
        obtain ⟨v1, v2⟩ := V
        simp only at hec hr cE hR q3
        by_cases u : v2 = 0
        · obtain rfl := u
          rw [if_neg (by simp)] at hR
          rw [if_pos rfl] at cE
          have q4 : decide (v1 < 0) = false := by simp; omega
          go_enter Tryz.func258, Tryz.ntmps258
          go_wp2_with (first | (go_at_call 105; refine (cP.out).mono ?_; rintro e w1 ⟨rfl, hb1⟩; obtain ⟨hc1, hf1⟩ := bcell hb1; obtain ⟨_, ead, _, m0, m1, m2, m3, m4, m5, m6, m7⟩ := HK.out _ (H0.out.trans (hb1.mono (by omega))); obtain rfl := Option.some.inj ead; have hwz := hb1.size; have hz3 : w.heap.size + 1 < w1.heap.size := (by omega); have hz4 : w.heap.size < w1.heap.size := (by omega); have hbm : (ad.add (n * 8)).block < w1.heap.size := Nat.lt_of_lt_of_le HBM.out (by omega)) | (go_at_call 286; refine (cE.out _ ((H0.out.trans (hb1.mono (by omega))).alloc (by omega) _)).mono ?_; rintro e w2 ⟨rfl, hb2⟩; obtain ⟨_, ead, _, m0, m1, m2, m3, m4, m5, m6, m7⟩ := HK.out _ (((H0.out.trans (hb1.mono (by omega))).alloc (by omega) _).trans (hb2.mono (by simp; omega))); obtain rfl := Option.some.inj ead))
          go_ret2
          exact ⟨(ret_ints (b := 4096 + 64 * (l[n]'hn).first + v1) (d := 0) (by first | exact q3.out | omega) rfl).trans (by rw [hR]), ((H0.out.trans (hb1.mono (by omega))).alloc (by omega) _).trans (hb2.mono (by simp; omega))⟩
        · obtain ⟨rfl, rfl⟩ : v1 = 0 ∧ v2 = 5 := by omega
          rw [if_pos (by simp)] at hR
          rw [if_neg u] at cE
          go_enter Tryz.func258, Tryz.ntmps258
          go_wp2_with (first | (go_at_call 105; refine (cP.out).mono ?_; rintro e w1 ⟨rfl, hb1⟩; obtain ⟨hc1, hf1⟩ := bcell hb1; obtain ⟨_, ead, _, m0, m1, m2, m3, m4, m5, m6, m7⟩ := HK.out _ (H0.out.trans (hb1.mono (by omega))); obtain rfl := Option.some.inj ead; have hwz := hb1.size; have hz3 : w.heap.size + 1 < w1.heap.size := (by omega); have hz4 : w.heap.size < w1.heap.size := (by omega); have hbm : (ad.add (n * 8)).block < w1.heap.size := Nat.lt_of_lt_of_le HBM.out (by omega)) | (go_at_call 286; refine (cE.out _ ((H0.out.trans (hb1.mono (by omega))).alloc (by omega) _)).mono ?_; rintro e w2 ⟨rfl, hb2⟩))
          go_ret2
          exact ⟨by rw [hR]; rfl, ((H0.out.trans (hb1.mono (by omega))).alloc (by omega) _).trans (hb2.mono (by simp; omega))⟩

end Go.Proofs.YtjiedaialianmaaGreat
end

section

namespace Go.Proofs.YtjiedaialianmaaGreat
open Go.RowKit

theorem own_base {w : World} {base size n : Nat} {e : TypeId} {v : Value} {xs : List Value} (h : w.ownsRow base e size v n xs) : ∀ g, v.ownBlock = some g → base ≤ g := by
  intro g hg
  rcases h.2 with ⟨rfl, _⟩ | ⟨g', cap, cur, rfl, e2, _⟩
  · simp [Value.ownBlock] at hg
  · simp [Value.ownBlock] at hg; omega
theorem own_slice {w : World} {base size n : Nat} {e : TypeId} {v : Value} {xs : List Value} (h : w.ownsRow base e size v n xs) : ∃ (A : Option Addr) (c : Nat), v = .slice A n c := by
  rcases h.2 with ⟨rfl, rfl⟩ | ⟨g', cap, cur, rfl, _⟩
  · exact ⟨_, _, rfl⟩
  · exact ⟨_, _, rfl⟩
section
variable {P : Program} (w : World)
theorem run_append_of_nil (base : Nat) (t ty e : TypeId) (i : TypeInfo) (size : Nat) (ht : P.underlying t = some (.slice e)) (hi : P.info? e = some i)
    (v : Value) (n : Nat) (xs : List Value) (hown : w.ownsRow base e size v n xs) (c : Nat) : (Builtin.append_ #[t, t] ty #[v, .slice none 0 c]).run P w = .ok v w := by
  rcases hown.2 with ⟨rfl, rfl⟩ | ⟨g, cap, cur, rfl, _, _, hnc, _⟩
  · simp [Builtin.append_, run_underlying ht, sizeOf, typeInfo, hi, Builtin.lenOf, Builtin.firstCells]
  · simp [Builtin.append_, run_underlying ht, sizeOf, typeInfo, hi, Builtin.lenOf, Builtin.firstCells, hnc, storeCells]

theorem run_append_any (base : Nat) (t ty e : TypeId) (i : TypeInfo) (z : Value) (size bytes : Nat) (ht : P.underlying t = some (.slice e)) (hi : P.info? e = some i) (hz : i.zero = some z)
    (hsize : i.size = size) (hby : i.bytes = bytes) (hzs : z.cells.size = size) (hsz : 0 < size)
    (v : Value) (n : Nat) (xs : List Value) (hown : w.ownsRow base e size v n xs)
    (B : Nat) (A : Option Addr) (m c : Nat) (news : List Value) (hr : Reads w B size A m news) (h1 : ∀ u ∈ news, u.oneCell' = true)
    (h63 : n + m ≤ maxLen) (hbytes : (n + m) * bytes ≤ 140737488355328) (hbase : base ≤ w.heap.size) :
    ∃ v' w', (Builtin.append_ #[t, t] ty #[v, .slice A m c]).run P w = .ok v' w' ∧ w'.ownsRow base e size v' (n + m) (xs ++ news) ∧ w.grownBy w' v.ownBlock ∧
      (v'.ownBlock = v.ownBlock ∨ v'.ownBlock = some w.heap.size) := by
  rcases A with _ | ad
  · have hm : m = 0 := by
      rcases Nat.eq_zero_or_pos m with h0 | h0
      · exact h0
      · obtain ⟨ad, h, _⟩ := hr.2 h0
        cases h
    subst hm
    have hn : news = [] := List.eq_nil_of_length_eq_zero (by simpa using hr.1)
    subst hn
    exact ⟨v, w, run_append_of_nil w base t ty e i size ht hi v n xs hown c, by simpa using hown, World.grownBy.refl w _, .inl rfl⟩
  · have hcells : ∀ j u, news[j]? = some u → w.cell? (ad.add j) = some u := by
      intro j u hu
      rcases Nat.eq_zero_or_pos m with h0 | h0
      · subst h0
        have hn : news = [] := List.eq_nil_of_length_eq_zero (by simpa using hr.1)
        subst hn
        simp at hu
      · obtain ⟨ad', h, _, hc⟩ := hr.2 h0
        injection h with h
        subst h
        exact hc j u hu
    obtain ⟨v', w', hrun, h2, h3, _, h5⟩ := run_append_own_at (P := P) w base t ty e i z size bytes ht hi hz hsize hby hzs hsz v n xs hown ad m c news hr.1 hcells h1 h63 hbytes hbase
    exact ⟨v', w', hrun, h2, h3, h5⟩

theorem wp_append_any {o : Oper} {a : Act} {K : Act → World → Prop} {Q : Exit → Act → World → Prop} (s x : Operand) (t : TypeId)
    (ho : o.op = .call { callee := .builtin .append, args := #[s, x], argTypes := #[t, t] })
    (base : Nat) (e : TypeId) (i : TypeInfo) (z : Value) (size bytes : Nat) (ht : P.underlying t = some (.slice e)) (hi : P.info? e = some i) (hz : i.zero = some z)
    (hsize : i.size = size) (hby : i.bytes = bytes) (hzs : z.cells.size = size) (hsz : 0 < size)
    (v : Value) (n : Nat) (xs : List Value) (hs : a.eval s = v) (hown : w.ownsRow base e size v n xs)
    (B : Nat) (A : Option Addr) (m c : Nat) (news : List Value) (hx : a.eval x = .slice A m c) (hr : Reads w B size A m news) (h1 : ∀ u ∈ news, u.oneCell' = true)
    (h63 : n + m ≤ maxLen) (hbytes : (n + m) * bytes ≤ 140737488355328) (hbase : base ≤ w.heap.size)
    (h : ∀ v' w', w'.ownsRow base e size v' (n + m) (xs ++ news) → w.grownBy w' v.ownBlock → (v'.ownBlock = v.ownBlock ∨ v'.ownBlock = some w.heap.size) → K (a.put o.dst v') w') : o.wp P a w K Q := by
  obtain ⟨v', w', hrun, h2, h3, h4⟩ := run_append_any (P := P) w base t o.type e i z size bytes ht hi hz hsize hby hzs hsz v n xs hown B A m c news hr h1 h63 hbytes hbase
  unfold Oper.wp execOp
  simp only [ho, resolve, invoke, builtin, Sem.run_bind, Sem.run_pure, Result.andThen_ok, List.map_toArray, List.map_cons, List.map_nil, hs, hx, hrun]
  exact h v' w' h2 h3 h4

theorem step_append_any {ops : Array Oper} {o : Oper} {a : Act} {K : Act → World → Prop} {Q : Exit → Act → World → Prop} {E : Prop} (hgd : o.guard = none) (s x : Operand) (t : TypeId)
    (ho : o.op = .call { callee := .builtin .append, args := #[s, x], argTypes := #[t, t] })
    (base : Nat) (e : TypeId) (i : TypeInfo) (z : Value) (size bytes : Nat) (ht : P.underlying t = some (.slice e)) (hi : P.info? e = some i) (hz : i.zero = some z)
    (hsize : i.size = size) (hby : i.bytes = bytes) (hzs : z.cells.size = size) (hsz : 0 < size)
    (v : Value) (n : Nat) (xs : List Value) (hs : a.eval s = v) (hown : w.ownsRow base e size v n xs)
    (B : Nat) (A : Option Addr) (m c : Nat) (news : List Value) (hx : a.eval x = .slice A m c) (hr : Reads w B size A m news) (h1 : ∀ u ∈ news, u.oneCell' = true)
    (h63 : n + m ≤ maxLen) (hbytes : (n + m) * bytes ≤ 140737488355328) (hbase : base ≤ w.heap.size)
    (h : ∀ v' w', w'.ownsRow base e size v' (n + m) (xs ++ news) → w.grownBy w' v.ownBlock → (v'.ownBlock = v.ownBlock ∨ v'.ownBlock = some w.heap.size) → K (a.put o.dst v') w') :
    if Region.wanted o (yielded ops a.tmps) = true then Oper.wp P o a w K Q else E := by
  have hw : Region.wanted o (yielded ops a.tmps) = true := by simp [Region.wanted, hgd]
  rw [if_pos hw]
  exact wp_append_any w s x t ho base e i z size bytes ht hi hz hsize hby hzs hsz v n xs hs hown B A m c news hx hr h1 h63 hbytes hbase h

theorem wpList_append_any {ops : Array Oper} {rest : List Oper} {o : Oper} {a : Act} {Q : Exit → Act → World → Prop} (hgd : o.guard = none) (s x : Operand) (t : TypeId)
    (ho : o.op = .call { callee := .builtin .append, args := #[s, x], argTypes := #[t, t] })
    (base : Nat) (e : TypeId) (i : TypeInfo) (z : Value) (size bytes : Nat) (ht : P.underlying t = some (.slice e)) (hi : P.info? e = some i) (hz : i.zero = some z)
    (hsize : i.size = size) (hby : i.bytes = bytes) (hzs : z.cells.size = size) (hsz : 0 < size)
    (v : Value) (n : Nat) (xs : List Value) (hs : a.eval s = v) (hown : w.ownsRow base e size v n xs)
    (B : Nat) (A : Option Addr) (m c : Nat) (news : List Value) (hx : a.eval x = .slice A m c) (hr : Reads w B size A m news) (h1 : ∀ u ∈ news, u.oneCell' = true)
    (h63 : n + m ≤ maxLen) (hbytes : (n + m) * bytes ≤ 140737488355328) (hbase : base ≤ w.heap.size)
    (h : ∀ v' w', w'.ownsRow base e size v' (n + m) (xs ++ news) → w.grownBy w' v.ownBlock → (v'.ownBlock = v.ownBlock ∨ v'.ownBlock = some w.heap.size) → wpList P ops Q rest (a.put o.dst v') w') : wpList P ops Q (o :: rest) a w :=
  wpList_plain hgd fun _ hK => wp_append_any w s x t ho base e i z size bytes ht hi hz hsize hby hzs hsz v n xs hs hown B A m c news hx hr h1 h63 hbytes hbase fun v' w' h2 h3 h4 => hK _ _ (h v' w' h2 h3 h4)
end

end Go.Proofs.YtjiedaialianmaaGreat
end

section

namespace Go.Proofs.YtjiedaialianmaaGreat
open Go.RowKit

theorem Tryz.infoInt : (Tryz.prog.info? 3).map (fun i => (i.zero, i.size, i.bytes)) = some (some (.int .i64 0), 1, 8) := by kernel_rfl

/-- a slice of ints that lies in blocks of the call's own, from block base on -/
def Ints (w : World) (base : Nat) (v : Value) (ns : List Int) : Prop := w.ownsRow base 3 1 v ns.length (ns.map iv)
theorem own_below {w w' : World} {base size n B : Nat} {e : TypeId} {v : Value} {xs : List Value} (h : w.ownsRow base e size v n xs) (hb : Below B w w') (hB : w.heap.size ≤ B) : w'.ownsRow base e size v n xs := by
  refine ⟨h.1, ?_⟩
  rcases h.2 with h0 | ⟨g, cap, cur, e1, e2, e3, e4⟩
  · exact .inl h0
  · refine .inr ⟨g, cap, cur, e1, e2, ?_, e4⟩
    have : g < w.heap.size := by
      rcases Nat.lt_or_ge g w.heap.size with hlt | hge
      · exact hlt
      · rw [Array.getElem?_eq_none hge] at e3; cases e3
    rw [hb.block g (by omega)]; exact e3
abbrev IntRow (w : World) (A : Option Addr) (ns : List Int) : Prop := Row (fun n => [iv n]) 1 w A ns
theorem map_flat (ns : List Int) : ns.map iv = ns.flatMap (fun n => [iv n]) := by induction ns with
  | nil => rfl
  | cons x l ih => simp [List.flatMap_cons, ← ih]
theorem Ints.row {w : World} {base : Nat} {v : Value} {ns : List Int} (h : Ints w base v ns) : ∃ (A : Option Addr) (c : Nat), v = .slice A ns.length c ∧ IntRow w A ns := by
  obtain ⟨A, c, rfl⟩ := own_slice h
  refine ⟨A, c, rfl, ?_⟩
  have := Reads.of_own h
  rwa [map_flat] at this
theorem Ints.nil (w : World) (base : Nat) : Ints w base (.slice none 0 0) [] := World.ownsRow_nil _ _ _ _
theorem append_int (W : World) {ops : Array Oper} {rest : List Oper} {o : Oper} {a : Act} {Q : Exit → Act → World → Prop} (hgd : o.guard = none) (s x : Operand)
    (ho : o.op = .call { callee := .builtin .append, args := #[s, x], argTypes := #[89, 89] }) (base : Nat) (v : Value) (ns : List Int) (n : Int) (hs : a.eval s = v)
    (hx : a.eval x = .slice (some ⟨W.heap.size, 0, none⟩) 1 1) (hown : Ints W base v ns) (hl : ns.length ≤ 1000000) (hbase : base ≤ W.heap.size)
    (h : ∀ v' w', Ints w' base v' (ns ++ [n]) → Below base W w' → wpList Tryz.prog ops Q rest (a.put o.dst v') w') : wpList Tryz.prog ops Q (o :: rest) a (W.alloc (.cells #[.int .i64 n] 3)) := by
  obtain ⟨i0, hi, hz0, hz1, hz2⟩ := info_parts Tryz.infoInt
  refine wpList_append_own_at (W.alloc (.cells #[.int .i64 n] 3)) hgd s x 89 ho base 3 i0 (.int .i64 0) 1 8 Tryz.underlying89 hi hz0 hz1 hz2 rfl (by decide) v ns.length (ns.map iv) hs (hown.alloc _) ⟨W.heap.size, 0, none⟩ 1 1 [.int .i64 n] hx rfl
    (cell_one_new _ _ _) (by simp [Value.oneCell']) (by simp only [maxLen]; omega) (by omega) (by simp; omega) ?_
  intro v' w1 hown' hgrow _ _
  refine h v' w1 ?_ (((Below.refl base W).alloc hbase _).grown hgrow (by simp; omega) (own_base hown))
  unfold Ints
  simpa using hown'

set_option maxHeartbeats 4000000 in
set_option maxRecDepth 100000 in
theorem Addresses_any (k : Krn) (A : Option Addr) (c : Nat) (l : List Plc) (nm tx : ByteArray) (mj mn : Int) (ex : List Exp) (im : List Imp) (pa : List Pat) (eA iA pA : Option Addr) (eC iC pC : Nat) (w : World) (hk : k.ok w) (h : PlsOk w A l) (him : ImpsOk w iA im) (hi6 : im.length ≤ 6) (hp : placedErr k l = 0) :
    Calls Tryz.prog 135 #[k.v, .slice A l.length c, .agg #[.string nm, .int .i64 mj, .int .i64 mn, .string tx, .slice eA ex.length eC, .slice iA im.length iC, .slice pA pa.length pC]] w fun e w' =>
      (∃ (A' : Option Addr) (c' : Nat), e = .returned (.tuple #[.slice A' (addrsOf k l im).1.length c', .int .i64 (addrsOf k l im).2]) ∧ IntRow w' A' (addrsOf k l im).1) ∧ Below w.heap.size w w' := by
  obtain ⟨wk, hwk⟩ : ∃ wk, wk = w.alloc (.cells #[.int .i64 k.major, .int .i64 k.minor, .slice k.eA k.ex.length k.eC] 24) := ⟨_, rfl⟩
  obtain ⟨g0, g1, g2, hzk, hbk⟩ := box3 hwk
  obtain ⟨w0, hw0⟩ : ∃ w0, w0 = wk.alloc (.cells #[.string nm, .int .i64 mj, .int .i64 mn, .string tx, .slice eA ex.length eC, .slice iA im.length iC, .slice pA pa.length pC] 70) := ⟨_, rfl⟩
  obtain ⟨_, _, _, _, _, f5, _, hz0, hb0⟩ := box7 hw0
  rw [hzk] at f5 hz0 hb0
  have k0 := (hb0.cell (p := ⟨w.heap.size, 0, none⟩) (by simp)).trans g0
  have k1 := (hb0.cell (p := ⟨w.heap.size, 1, none⟩) (by simp)).trans g1
  have k2 := (hb0.cell (p := ⟨w.heap.size, 2, none⟩) (by simp)).trans g2
  have H0 := Lib.hid (show Below w.heap.size w w0 from hbk.trans (hb0.mono (by omega)))
  have HZ := Lib.hid hz0
  have hwk' := hwk.symm
  have hw0' := hw0.symm
  have HIM := Lib.hid him
  obtain ⟨R, hR⟩ : ∃ R, R = addrsOf k l im := ⟨_, rfl⟩
  rw [← hR]
  have HR := Lib.hid hR
  clear hwk hw0 hbk hb0 g0 g1 g2 him hR hz0
  have cA := Lib.hid (fun W (hb : Below w.heap.size w W) i => Address_any k A c l i W (hk.below hb) (h.below hb) hp)
  clear hk h hp
  go_enter Tryz.func135, Tryz.ntmps135
  go_wp2_with fail
  go_loopw [8, 16] (fun v i wr => ∃ (j : Nat) (pre : List Int), j ≤ im.length ∧ i = .int .i64 j ∧ pre.length = j ∧ Ints wr w0.heap.size v pre ∧ glue pre (addrsOf k l (im.drop j)) = R ∧ Below w0.heap.size w0 wr) (fun _ i _ => im.length - (intOf i).toNat)
  case atStart => exact ⟨0, [], by omega, rfl, rfl, Ints.nil _ _, by rw [HR.out]; exact glue_nil, Below.refl _ _⟩
  case round =>
    obtain ⟨j, pre, hj, rfl, hpl, hin, hG, hb⟩ := hrel
    have HG := Lib.hid hG
    have HB := Lib.hid hb
    have HI := Lib.hid hin
    have HPL := Lib.hid hpl
    clear hG hin
    obtain ⟨vA, vc, hv, hrow⟩ := HI.out.row
    have HV := Lib.hid hv
    clear hv
    have hwz := hb.size
    have hz0 := HZ.out
    have hz1 : w.heap.size + 1 < wr.heap.size := by omega
    have hz2 : w.heap.size < wr.heap.size := by omega
    have r0 := (hb.cell (p := ⟨w.heap.size, 0, none⟩) (by simp; omega)).trans k0
    have r1 := (hb.cell (p := ⟨w.heap.size, 1, none⟩) (by simp; omega)).trans k1
    have r2 := (hb.cell (p := ⟨w.heap.size, 2, none⟩) (by simp; omega)).trans k2
    have r5 := (hb.cell (p := ⟨w.heap.size + 1, 5, none⟩) (by simp; omega)).trans f5
    have HX := Lib.hid (show Below w.heap.size w wr from H0.out.trans (hb.mono H0.out.size))
    clear hz0
    by_cases hlt : j < im.length
    · have hlt' : (j : Int) < im.length := by omega
      obtain ⟨ad, rfl, hab, h0, h1, h2, h3⟩ := imp_at HIM.out.1 HX.out j hlt
      have cJ := Lib.hid (fun W hb => cA.out W hb im[j])
      obtain ⟨V, hV⟩ : ∃ V, V = addrOf k l im[j] := ⟨_, rfl⟩
      have e1 := Lib.hid (fun he => (glue_err (k := k) (l := l) (pre := pre) hlt he).symm.trans HG.out)
      have e2 := Lib.hid (fun he => (glue_ok (k := k) (l := l) (pre := pre) hlt he).trans HG.out)
      rw [← hV] at e1 e2
      simp only [← hV] at cJ
      clear hV hb
      obtain ⟨v1, v2⟩ := V
      simp only at e1 e2 cJ
      have HXA := Lib.hid (HX.out.alloc (by omega) (.cells #[.string im[j].mod, .string im[j].name, iv im[j].major, iv im[j].minor] 173))
      by_cases u : v2 = 0
      · obtain rfl := u
        have e3 := Lib.hid (e2.out rfl)
        go_wp2_with (first | (go_at_call 186; refine (cJ.out _ HXA.out).mono ?_; rintro e w2 ⟨rfl, hb2⟩; have hz3 := hb2.size) | (at_builtin; refine append_int _ rfl _ _ rfl w0.heap.size _ pre v1 rfl rfl (own_below (HI.out.alloc _) hb2 (Nat.le_refl _)) (by rw [HPL.out]; omega) (by simp at hz3; omega) ?_; intro v' w4 hin4 hb4))
        go_roundw
        case rel => exact ⟨j + 1, pre ++ [v1], by omega, by go_num, by simp [HPL.out], hin4, e3.out, (((HB.out.alloc (by omega) _).trans (hb2.mono (by simp; omega))).trans hb4)⟩
        case measure => (simp [intOf]; try omega)
      · have u' : (v2 != 0) = true := by simp [u]
        have e3 := Lib.hid (e1.out u)
        clear u
        go_wp2_with (go_at_call 186; refine (cJ.out _ HXA.out).mono ?_; rintro e w2 ⟨rfl, hb2⟩; have hz3 := hb2.size)
        go_ret2
        exact ⟨⟨none, 0, by rw [← e3.out]; rfl, by rw [← e3.out]; exact Row.nil⟩, HXA.out.trans (hb2.mono (by simp; omega))⟩
    · have e1 := Lib.hid ((glue_end (k := k) (l := l) (pre := pre) hlt).symm.trans HG.out)
      go_wp2_with fail
      go_ret2
      exact ⟨⟨vA, vc, by rw [← e1.out]; rw [HV.out]; rfl, by rw [← e1.out]; exact hrow⟩, HX.out⟩

end Go.Proofs.YtjiedaialianmaaGreat
end

section

namespace Go.Proofs.YtjiedaialianmaaGreat
open Go.RowKit
open Gs (Tx)

/-- so many bytes 255 -/
def ffs (n : Nat) : ByteArray := ⟨(List.replicate n 255).toArray⟩
theorem ffs_size (n : Nat) : (ffs n).size = n := by simp [ffs, ByteArray.size]
theorem repeat_ff : ∀ n, Lib.repeatL [255] n = List.replicate n 255
  | 0 => rfl
  | n + 1 => by rw [Lib.repeatL, repeat_ff n, List.replicate_succ]; rfl
set_option maxHeartbeats 1000000 in
set_option maxRecDepth 100000 in
theorem lblank_any (n : Nat) (w : World) (hn : n ≤ 16) : Calls Tryz.prog 90 #[.int .i64 n] w fun e w' => e = .returned (.string (ffs (64 * n))) ∧ Below w.heap.size w w' := by
  have cR := Lib.hid (fun W => Tryz.strings_Repeat ⟨#[255]⟩ (64 * n) W (by omega) (by show 1 * (64 * n) ≤ _; omega))
  have hb : (⟨(Lib.repeatL (⟨#[255]⟩ : ByteArray).data.toList (64 * n)).toArray⟩ : ByteArray) = ffs (64 * n) := by
    show (⟨(Lib.repeatL [255] (64 * n)).toArray⟩ : ByteArray) = _
    rw [repeat_ff]; rfl
  rw [hb] at cR
  have e1 : (((64 * n : Nat)) : Int) = (n : Int) * 64 := by omega
  rw [e1] at cR
  generalize ffs (64 * n) = B at *
  clear hb e1
  go_enter Tryz.func90, Tryz.ntmps90
  go_wp2_with (go_at_call 166; refine (cR.out _).mono ?_; rintro e w' ⟨rfl, hb⟩)
  go_ret
  exact ⟨rfl, hb⟩

set_option maxHeartbeats 2000000 in
set_option maxRecDepth 100000 in
theorem LCheck_any (k : Krn) (A : Option Addr) (c : Nat) (l : List Plc) (w : World) (hk : k.ok w) (h : PlsOk w A l) :
    Calls Tryz.prog 86 #[k.v, .slice A l.length c] w fun e w' => e = .returned (.int .i64 (linkErr k l)) ∧ Below w.heap.size w w' := by
  obtain ⟨w0, hw0⟩ : ∃ w0, w0 = w.alloc (.cells #[.int .i64 k.major, .int .i64 k.minor, .slice k.eA k.ex.length k.eC] 24) := ⟨_, rfl⟩
  obtain ⟨g0, g1, g2, hz, hb0⟩ := box3 hw0
  have H0 := Lib.hid hb0
  have hw0' := hw0.symm
  have c1 := Lib.hid (Kernel_any k w0 (hk.below hb0))
  have c2 := Lib.hid (fun W (hb : Below w.heap.size w W) => RCheck_any A c l W (h.below hb))
  have c3 := Lib.hid (fun (e : regErr l = 0) W (hb : Below w.heap.size w W) => Twice_any A c l W (h.row.below hb) (reg_row e).1)
  obtain ⟨E, hE⟩ : ∃ E, E = linkErr k l := ⟨_, rfl⟩
  rw [← hE]
  unfold linkErr at hE
  clear hw0 hb0 hk h
  generalize krnErr k = ke at *
  generalize regErr l = re at *
  generalize isTwice l = tw at *
  by_cases t1 : ke = 0
  · obtain rfl := t1
    rw [if_neg (by omega)] at hE
    by_cases t2 : re = 0
    · obtain rfl := t2
      rw [if_neg (by omega)] at hE
      have c4 := Lib.hid (c3.out rfl)
      cases tw
      · rw [if_neg (by simp)] at hE
        go_enter Tryz.func86, Tryz.ntmps86
        go_wp2_with (first | (go_at_call 84; (with_reducible refine (c1.out).mono ?_); rintro e w1 ⟨rfl, hb1⟩) | (go_at_call 137; (with_reducible refine (c2.out _ (H0.out.trans (hb1.mono (by omega)))).mono ?_); rintro e w2 ⟨rfl, hb2⟩) | (go_at_call 155; (with_reducible refine (c4.out _ ((H0.out.trans (hb1.mono (by omega))).trans (hb2.mono (by have := hb1.size; omega)))).mono ?_); rintro e w3 ⟨rfl, hb3⟩))
        go_ret
        exact ⟨ret_int hE.symm, ((H0.out.trans (hb1.mono (by omega))).trans (hb2.mono (by have := hb1.size; omega))).trans (hb3.mono (by have := hb1.size; have := hb2.size; omega))⟩
      · rw [if_pos rfl] at hE
        go_enter Tryz.func86, Tryz.ntmps86
        go_wp2_with (first | (go_at_call 84; (with_reducible refine (c1.out).mono ?_); rintro e w1 ⟨rfl, hb1⟩) | (go_at_call 137; (with_reducible refine (c2.out _ (H0.out.trans (hb1.mono (by omega)))).mono ?_); rintro e w2 ⟨rfl, hb2⟩) | (go_at_call 155; (with_reducible refine (c4.out _ ((H0.out.trans (hb1.mono (by omega))).trans (hb2.mono (by have := hb1.size; omega)))).mono ?_); rintro e w3 ⟨rfl, hb3⟩))
        go_ret
        exact ⟨ret_int hE.symm, ((H0.out.trans (hb1.mono (by omega))).trans (hb2.mono (by have := hb1.size; omega))).trans (hb3.mono (by have := hb1.size; have := hb2.size; omega))⟩
    · rw [if_pos t2] at hE
      have t2' : (re == 0) = false := by simp [t2]
      clear t2 c3
      go_enter Tryz.func86, Tryz.ntmps86
      go_wp2_with (first | (go_at_call 84; (with_reducible refine (c1.out).mono ?_); rintro e w1 ⟨rfl, hb1⟩) | (go_at_call 137; (with_reducible refine (c2.out _ (H0.out.trans (hb1.mono (by omega)))).mono ?_); rintro e w2 ⟨rfl, hb2⟩))
      go_ret
      exact ⟨ret_int hE.symm, (H0.out.trans (hb1.mono (by omega))).trans (hb2.mono (by have := hb1.size; omega))⟩
  · rw [if_pos t1] at hE
    have t1' : (ke == 0) = false := by simp [t1]
    clear t1 c2 c3
    go_enter Tryz.func86, Tryz.ntmps86
    go_wp2_with (first | (go_at_call 84; (with_reducible refine (c1.out).mono ?_); rintro e w1 ⟨rfl, hb1⟩))
    go_ret
    exact ⟨ret_int hE.symm, H0.out.trans (hb1.mono (by omega))⟩

/-- a linker that lies in block p: its module, its addresses, its bytes so far -/
def linkCells (x : Plc) (sA : Option Addr) (n sC : Nat) (s : ByteArray) : Array Value :=
  #[.string x.m.name, .int .i64 x.m.major, .int .i64 x.m.minor, .string x.m.text, .slice x.m.eA x.m.ex.length x.m.eC, .slice x.m.iA x.m.im.length x.m.iC, .slice x.m.pA x.m.pa.length x.m.pC, .int .i64 x.first, .slice sA n sC, .string s]
def Lk (w : World) (p : Nat) (x : Plc) (sA : Option Addr) (n sC : Nat) (s : ByteArray) : Prop := w.heap[p]? = some (.cells (linkCells x sA n sC s) 207 (0, 0))
section
variable {w w' : World} {p : Nat} {x : Plc} {sA : Option Addr} {n sC : Nat} {s : ByteArray}
theorem Lk.cell (h : Lk w p x sA n sC s) (i : Nat) : w.cell? ⟨p, i, none⟩ = (linkCells x sA n sC s)[i]? := cell_of_row _ _ _ _ _ _ h
theorem Lk.lt (h : Lk w p x sA n sC s) : p < w.heap.size := by
  rcases Nat.lt_or_ge p w.heap.size with h' | h'
  · exact h'
  · unfold Lk at h; rw [Array.getElem?_eq_none h'] at h; cases h
theorem Lk.frozen (h : Lk w p x sA n sC s) (i : Nat) : w.frozen? ⟨p, i, none⟩ = false := frozen_of_row _ _ _ _ _ h
theorem Lk.kept (h : Lk w p x sA n sC s) (hb : Below w.heap.size w w') : Lk w' p x sA n sC s := (hb.block p h.lt).trans h
theorem Lk.put (h : Lk w p x sA n sC s) (t : ByteArray) : Lk (w.setCell ⟨p, 9, none⟩ (.string t)) p x sA n sC t := heap_setCell_same w p 9 _ _ _ h
end

set_option maxHeartbeats 1000000 in
set_option maxRecDepth 100000 in
theorem base_any (x : Plc) (p : Nat) (w : World) (h : w.cell? ⟨p, 7, none⟩ = some (.int .i64 x.first)) (h0 : 0 ≤ x.first) (h1 : x.first ≤ 16) :
    Calls Tryz.prog 222 #[.pointer (some ⟨p, 0, none⟩)] w fun e w' => e = .returned (.int .i64 (baseOf x)) ∧ w = w' := by
  have q1 : IntKind.i64.wrap (x.first * 64) = x.first * 64 := IntWalk.i64_in _ (by omega)
  have q2 : IntKind.i64.wrap (4096 + x.first * 64) = 4096 + x.first * 64 := IntWalk.i64_in _ (by omega)
  have e1 := Lib.hid (show 4096 + x.first * 64 = baseOf x by unfold baseOf; omega)
  go_enter Tryz.func222, Tryz.ntmps222
  go_wp2_with fail
  go_ret
  exact ⟨ret_int e1.out, rfl⟩

end Go.Proofs.YtjiedaialianmaaGreat
end

section

namespace Go.Proofs.YtjiedaialianmaaGreat
open Go.RowKit
open Gs (Tx)

theorem grown_setL (w : World) (b i : Nat) (v : Value) : w.grownBy (w.setCell ⟨b, i, none⟩ v) (some b) := ⟨rfl, rfl, rfl, by simp, fun k _ hne => Below.heap_setCell _ _ _ _ (fun e => hne (by rw [e]))⟩
theorem intl_at {w w' : World} {A : Option Addr} {l : List Int} (h : IntRow w A l) (hb : Below w.heap.size w w') (i : Nat) (hi : i < l.length) : ∃ ad, A = some ad ∧ ad.block < w.heap.size ∧ w'.cell? (ad.add i) = some (iv l[i]) := by
  obtain ⟨ad, rfl, hab, hc⟩ := Row.at_ (enc := fun n => [iv n]) (k := 1) (fun _ => rfl) h i hi
  have e0 := hc 0 _ rfl
  rw [add_zero_, Nat.mul_one] at e0
  exact ⟨ad, rfl, hab, (hb.cell (by rw [block_of_add]; exact hab)).trans e0⟩
set_option maxHeartbeats 4000000 in
set_option maxRecDepth 100000 in
theorem lpatch_any (x : Plc) (p : Nat) (sA : Option Addr) (sC : Nat) (ns : List Int) (s : ByteArray) (q : Pat) (w : World) (h : Lk w p x sA ns.length sC s) (hr : IntRow w sA ns) (hs : s.size ≤ 140737488351232) (h0 : 0 ≤ x.first) (h1 : x.first ≤ 16) (hq : q.sym < ns.length) :
    Calls Tryz.prog 163 #[.pointer (some ⟨p, 0, none⟩), .agg #[.int .i64 q.kind, .int .i64 q.at_, .int .i64 q.sym, .int .i64 q.add]] w fun e w' =>
      e = .returned (.int .i64 (applyErr s.size q.kind q.at_ q.add (symOf ns (baseOf x) q) (baseOf x))) ∧ Lk w' p x sA ns.length sC (applyStr s q.kind q.at_ q.add (symOf ns (baseOf x) q) (baseOf x)) ∧ w.grownBy w' (some p) := by
  obtain ⟨w0, hw0⟩ : ∃ w0, w0 = w.alloc (.cells #[.int .i64 q.kind, .int .i64 q.at_, .int .i64 q.sym, .int .i64 q.add] 180) := ⟨_, rfl⟩
  obtain ⟨q0, q1, q2, q3, hz0, hb0⟩ := box4 hw0
  have hplt := h.lt
  have hL0 := h.kept hb0
  have HR0 := Lib.hid (hr.below hb0)
  have HL0 := Lib.hid hL0
  have H0 := Lib.hid hb0
  have HZ0 := Lib.hid hz0
  have z7 : w0.cell? ⟨p, 7, none⟩ = some (.int .i64 x.first) := hL0.cell 7
  have z8 : w0.cell? ⟨p, 8, none⟩ = some (.slice sA ns.length sC) := hL0.cell 8
  have z9 : w0.cell? ⟨p, 9, none⟩ = some (.string s) := hL0.cell 9
  have hw0' := hw0.symm
  have cB0 := Lib.hid (base_any x p w0 z7 h0 h1)
  obtain ⟨B, hBB⟩ : ∃ B, B = baseOf x := ⟨_, rfl⟩
  obtain ⟨S, hSS⟩ : ∃ S, S = symOf ns (baseOf x) q := ⟨_, rfl⟩
  have hS := hSS
  unfold symOf at hS
  have cA := Lib.hid (fun W => Apply_any s q.kind q.at_ q.sym q.add S B W hs)
  rw [← hSS, ← hBB]
  rw [← hBB] at hS cB0
  have HBO := Lib.hid hBB.symm
  obtain ⟨E, hEE⟩ : ∃ E, E = applyErr s.size q.kind q.at_ q.add S B := ⟨_, rfl⟩
  obtain ⟨T, hTT⟩ : ∃ T, T = applyStr s q.kind q.at_ q.add S B := ⟨_, rfl⟩
  simp only [← hEE, ← hTT] at cA ⊢
  clear hSS hEE hTT hBB hw0 hb0 hL0 hr h
  by_cases t : q.sym < 0
  · rw [if_pos t] at hS
    subst hS
    have t' : decide (0 ≤ q.sym) = false := by simp; omega
    clear t hq
    have HZ := Lib.hid (show Below w0.heap.size w0 w0 ∧ w0.cell? ⟨p, 9, none⟩ = some (.string s) ∧ w0.cell? ⟨p, 7, none⟩ = some (.int .i64 x.first) ∧ w0.cell? ⟨w.heap.size, 0, none⟩ = some (.int .i64 q.kind) ∧ w0.cell? ⟨w.heap.size, 1, none⟩ = some (.int .i64 q.at_) ∧ w0.cell? ⟨w.heap.size, 2, none⟩ = some (.int .i64 q.sym) ∧ w0.cell? ⟨w.heap.size, 3, none⟩ = some (.int .i64 q.add) from ⟨Below.refl _ _, z9, z7, q0, q1, q2, q3⟩)
    have hwp : p < w0.heap.size := by omega
    have hwb : w.heap.size < w0.heap.size := by omega
    clear z7 z8 hz0
    go_enter Tryz.func163, Tryz.ntmps163
    go_wp2_with (go_at_call 222; (with_reducible refine (cB0.out).mono ?_); rintro e w' ⟨rfl, rfl⟩)
    obtain ⟨wz, hwz⟩ : ∃ wz, wz = w0 := ⟨_, rfl⟩
    subst hwz
    have HGZ := Lib.hid (grown_of_below H0.out (some p))
    have HLZ := HL0
    clear z9 q0 q1 q2 q3
    obtain ⟨hBZ, z9, z7, q0, q1, q2, q3⟩ := HZ.out
    have z7' := z7
    have HC0 := Lib.hid (show Below wz.heap.size wz wz ∧ wz.cell? ⟨p, 9, none⟩ = some (.string s) ∧ wz.cell? ⟨p, 7, none⟩ = some (.int .i64 x.first) ∧ wz.cell? ⟨w.heap.size, 0, none⟩ = some (.int .i64 q.kind) ∧ wz.cell? ⟨w.heap.size, 1, none⟩ = some (.int .i64 q.at_) ∧ wz.cell? ⟨w.heap.size, 2, none⟩ = some (.int .i64 q.sym) ∧ wz.cell? ⟨w.heap.size, 3, none⟩ = some (.int .i64 q.add) from ⟨Below.refl _ _, by assumption, by assumption, by assumption, by assumption, by assumption, by assumption⟩)
    have HCD := Lib.hid (show ∀ W' : World, (Below wz.heap.size wz W' ∧ W'.cell? ⟨p, 9, none⟩ = some (.string s) ∧ W'.cell? ⟨p, 7, none⟩ = some (.int .i64 x.first) ∧ W'.cell? ⟨w.heap.size, 0, none⟩ = some (.int .i64 q.kind) ∧ W'.cell? ⟨w.heap.size, 1, none⟩ = some (.int .i64 q.at_) ∧ W'.cell? ⟨w.heap.size, 2, none⟩ = some (.int .i64 q.sym) ∧ W'.cell? ⟨w.heap.size, 3, none⟩ = some (.int .i64 q.add)) → (Below wz.heap.size wz W'.drew ∧ W'.drew.cell? ⟨p, 9, none⟩ = some (.string s) ∧ W'.drew.cell? ⟨p, 7, none⟩ = some (.int .i64 x.first) ∧ W'.drew.cell? ⟨w.heap.size, 0, none⟩ = some (.int .i64 q.kind) ∧ W'.drew.cell? ⟨w.heap.size, 1, none⟩ = some (.int .i64 q.at_) ∧ W'.drew.cell? ⟨w.heap.size, 2, none⟩ = some (.int .i64 q.sym) ∧ W'.drew.cell? ⟨w.heap.size, 3, none⟩ = some (.int .i64 q.add)) from fun W' ⟨b, a0, a1, a2, a3, a4, a5⟩ => ⟨b.drew, a0, a1, a2, a3, a4, a5⟩)
    have HCS := Lib.hid (show ∀ W' W2 : World, (Below wz.heap.size wz W' ∧ W'.cell? ⟨p, 9, none⟩ = some (.string s) ∧ W'.cell? ⟨p, 7, none⟩ = some (.int .i64 x.first) ∧ W'.cell? ⟨w.heap.size, 0, none⟩ = some (.int .i64 q.kind) ∧ W'.cell? ⟨w.heap.size, 1, none⟩ = some (.int .i64 q.at_) ∧ W'.cell? ⟨w.heap.size, 2, none⟩ = some (.int .i64 q.sym) ∧ W'.cell? ⟨w.heap.size, 3, none⟩ = some (.int .i64 q.add)) → Below W'.heap.size W' W2 → (Below wz.heap.size wz W2 ∧ W2.cell? ⟨p, 9, none⟩ = some (.string s) ∧ W2.cell? ⟨p, 7, none⟩ = some (.int .i64 x.first) ∧ W2.cell? ⟨w.heap.size, 0, none⟩ = some (.int .i64 q.kind) ∧ W2.cell? ⟨w.heap.size, 1, none⟩ = some (.int .i64 q.at_) ∧ W2.cell? ⟨w.heap.size, 2, none⟩ = some (.int .i64 q.sym) ∧ W2.cell? ⟨w.heap.size, 3, none⟩ = some (.int .i64 q.add)) from fun W' W2 ⟨b, a0, a1, a2, a3, a4, a5⟩ hb => have s := b.size; ⟨b.trans (hb.mono s), (hb.cell (by first | omega | (simp; omega) | (simp only [block_of_add]; omega))).trans a0, (hb.cell (by first | omega | (simp; omega) | (simp only [block_of_add]; omega))).trans a1, (hb.cell (by first | omega | (simp; omega) | (simp only [block_of_add]; omega))).trans a2, (hb.cell (by first | omega | (simp; omega) | (simp only [block_of_add]; omega))).trans a3, (hb.cell (by first | omega | (simp; omega) | (simp only [block_of_add]; omega))).trans a4, (hb.cell (by first | omega | (simp; omega) | (simp only [block_of_add]; omega))).trans a5⟩)
    have HCA := Lib.hid (show ∀ (W' : World) (o : Obj), (Below wz.heap.size wz W' ∧ W'.cell? ⟨p, 9, none⟩ = some (.string s) ∧ W'.cell? ⟨p, 7, none⟩ = some (.int .i64 x.first) ∧ W'.cell? ⟨w.heap.size, 0, none⟩ = some (.int .i64 q.kind) ∧ W'.cell? ⟨w.heap.size, 1, none⟩ = some (.int .i64 q.at_) ∧ W'.cell? ⟨w.heap.size, 2, none⟩ = some (.int .i64 q.sym) ∧ W'.cell? ⟨w.heap.size, 3, none⟩ = some (.int .i64 q.add)) → (Below wz.heap.size wz (W'.alloc o) ∧ (W'.alloc o).cell? ⟨p, 9, none⟩ = some (.string s) ∧ (W'.alloc o).cell? ⟨p, 7, none⟩ = some (.int .i64 x.first) ∧ (W'.alloc o).cell? ⟨w.heap.size, 0, none⟩ = some (.int .i64 q.kind) ∧ (W'.alloc o).cell? ⟨w.heap.size, 1, none⟩ = some (.int .i64 q.at_) ∧ (W'.alloc o).cell? ⟨w.heap.size, 2, none⟩ = some (.int .i64 q.sym) ∧ (W'.alloc o).cell? ⟨w.heap.size, 3, none⟩ = some (.int .i64 q.add)) from fun W' o hc => HCS.out W' (W'.alloc o) hc ((Below.refl _ _).alloc (Nat.le_refl _) o))
    have HCX := Lib.hid (show ∀ (W' : World) (bX oX : Nat) (vX : Value), wz.heap.size ≤ bX → (Below wz.heap.size wz W' ∧ W'.cell? ⟨p, 9, none⟩ = some (.string s) ∧ W'.cell? ⟨p, 7, none⟩ = some (.int .i64 x.first) ∧ W'.cell? ⟨w.heap.size, 0, none⟩ = some (.int .i64 q.kind) ∧ W'.cell? ⟨w.heap.size, 1, none⟩ = some (.int .i64 q.at_) ∧ W'.cell? ⟨w.heap.size, 2, none⟩ = some (.int .i64 q.sym) ∧ W'.cell? ⟨w.heap.size, 3, none⟩ = some (.int .i64 q.add)) → (Below wz.heap.size wz (W'.setCell ⟨bX, oX, none⟩ vX) ∧ (W'.setCell ⟨bX, oX, none⟩ vX).cell? ⟨p, 9, none⟩ = some (.string s) ∧ (W'.setCell ⟨bX, oX, none⟩ vX).cell? ⟨p, 7, none⟩ = some (.int .i64 x.first) ∧ (W'.setCell ⟨bX, oX, none⟩ vX).cell? ⟨w.heap.size, 0, none⟩ = some (.int .i64 q.kind) ∧ (W'.setCell ⟨bX, oX, none⟩ vX).cell? ⟨w.heap.size, 1, none⟩ = some (.int .i64 q.at_) ∧ (W'.setCell ⟨bX, oX, none⟩ vX).cell? ⟨w.heap.size, 2, none⟩ = some (.int .i64 q.sym) ∧ (W'.setCell ⟨bX, oX, none⟩ vX).cell? ⟨w.heap.size, 3, none⟩ = some (.int .i64 q.add)) from fun W' bX oX vX hbX ⟨b, a0, a1, a2, a3, a4, a5⟩ => ⟨b.setCell (p := ⟨bX, oX, none⟩) hbX vX, (((Below.refl _ _).setCell (p := ⟨bX, oX, none⟩) hbX vX).cell (by first | omega | (simp; omega) | (simp only [block_of_add]; omega))).trans a0, (((Below.refl _ _).setCell (p := ⟨bX, oX, none⟩) hbX vX).cell (by first | omega | (simp; omega) | (simp only [block_of_add]; omega))).trans a1, (((Below.refl _ _).setCell (p := ⟨bX, oX, none⟩) hbX vX).cell (by first | omega | (simp; omega) | (simp only [block_of_add]; omega))).trans a2, (((Below.refl _ _).setCell (p := ⟨bX, oX, none⟩) hbX vX).cell (by first | omega | (simp; omega) | (simp only [block_of_add]; omega))).trans a3, (((Below.refl _ _).setCell (p := ⟨bX, oX, none⟩) hbX vX).cell (by first | omega | (simp; omega) | (simp only [block_of_add]; omega))).trans a4, (((Below.refl _ _).setCell (p := ⟨bX, oX, none⟩) hbX vX).cell (by first | omega | (simp; omega) | (simp only [block_of_add]; omega))).trans a5⟩)
    have HCL := Lib.hid (show ∀ W' : World, (Below wz.heap.size wz W' ∧ W'.cell? ⟨p, 9, none⟩ = some (.string s) ∧ W'.cell? ⟨p, 7, none⟩ = some (.int .i64 x.first) ∧ W'.cell? ⟨w.heap.size, 0, none⟩ = some (.int .i64 q.kind) ∧ W'.cell? ⟨w.heap.size, 1, none⟩ = some (.int .i64 q.at_) ∧ W'.cell? ⟨w.heap.size, 2, none⟩ = some (.int .i64 q.sym) ∧ W'.cell? ⟨w.heap.size, 3, none⟩ = some (.int .i64 q.add)) → Below wz.heap.size wz W' from fun W' hc => hc.1)
    have cB := Lib.hid (fun W (h : W.cell? ⟨p, 7, none⟩ = some (.int .i64 x.first)) => base_any x p W h h0 h1)
    rw [HBO.out] at cB
    clear z9 z7 q0 q1 q2 q3 z7' hBZ
    go_region_held3 (fun W' => Below wz.heap.size wz W' ∧ W'.cell? ⟨p, 9, none⟩ = some (.string s) ∧ W'.cell? ⟨p, 7, none⟩ = some (.int .i64 x.first) ∧ W'.cell? ⟨w.heap.size, 0, none⟩ = some (.int .i64 q.kind) ∧ W'.cell? ⟨w.heap.size, 1, none⟩ = some (.int .i64 q.at_) ∧ W'.cell? ⟨w.heap.size, 2, none⟩ = some (.int .i64 q.sym) ∧ W'.cell? ⟨w.heap.size, 3, none⟩ = some (.int .i64 q.add)) (first | exact HC0.out | exact HCD.out _ HC0.out | exact HCS.out _ _ (by assumption) (by assumption) | exact HCS.out _ _ HC0.out (by assumption) | exact HCS.out _ _ (HCD.out _ HC0.out) (by assumption) | exact HCS.out _ _ (HCD.out _ (by assumption)) (by assumption) | exact HCD.out _ (by assumption) | exact HCA.out _ _ (by assumption) | exact HCA.out _ _ HC0.out | exact HCA.out _ _ (HCD.out _ HC0.out) | exact HCD.out _ (HCA.out _ _ (by assumption)) | exact HCA.out _ _ (HCS.out _ _ HC0.out (by assumption)) | exact HCA.out _ _ (HCS.out _ _ (HCD.out _ HC0.out) (by assumption)) | exact HCX.out _ _ _ _ (Nat.le_refl _) (by assumption) | exact HCX.out _ _ _ _ (Nat.le_refl _) (HCS.out _ _ (HCA.out _ _ HC0.out) (by assumption)) | exact HCX.out _ _ _ _ (Nat.le_refl _) (HCS.out _ _ (HCD.out _ (HCA.out _ _ HC0.out)) (by assumption)) | assumption) (first | (go_at_call 222; (with_reducible refine (cB.out _ ?_).mono ?_); (first | exact HC0.out.2.2.1 | exact (HCD.out _ HC0.out).2.2.1 | exact (And.right (And.right (by assumption))).1); rintro e w' ⟨rfl, rfl⟩) | (go_at_call 223; (with_reducible refine (cA.out _).mono ?_); rintro e w3 ⟨rfl, hb3⟩))
    have hB := HCL.out _ (by assumption)
    have HBZ := Lib.hid hB
    have hLq := Lib.hid (HLZ.out.kept hB)
    have z9 : w3.cell? ⟨p, 9, none⟩ = some (.string s) := hLq.out.cell 9
    have z9f := hLq.out.frozen 9
    clear hB
    go_wp2_with fail
    go_ret
    exact ⟨rfl, hLq.out.put _, HGZ.out.trans ((grown_of_below HBZ.out (some p)).trans (grown_setL _ p 9 _))⟩
  · rw [if_neg t] at hS
    obtain ⟨m, hm⟩ : ∃ m : Nat, q.sym = m := ⟨q.sym.toNat, by omega⟩
    have hml : m < ns.length := by omega
    have hml' : (m : Int) < ns.length := by omega
    rw [hm] at hS q2 t hw0'
    have t' : decide (0 ≤ (m : Int)) = true := by simp
    rw [Int.toNat_natCast, List.getD_eq_getElem?_getD, List.getElem?_eq_getElem hml, Option.getD_some] at hS
    obtain ⟨ad, rfl, hab, i0⟩ := intl_at HR0.out (Below.refl _ _) m hml
    rw [← hS] at i0
    rw [hm] at cA ⊢
    have hwp : p < w0.heap.size := by omega
    have hwb : w.heap.size < w0.heap.size := by omega
    have HQ := Lib.hid (And.intro z9 (And.intro z7 (And.intro q0 (And.intro q1 (And.intro q2 q3)))))
    clear z7 z9 hz0 hS hq t hm q0 q1 q3
    go_enter Tryz.func163, Tryz.ntmps163
    go_wp2_with (go_at_call 222; (with_reducible refine (cB0.out).mono ?_); rintro e w' ⟨rfl, rfl⟩)
    go_quiet (fail)
    go_wp2_with fail
    obtain ⟨wz, hwz⟩ : ∃ wz, wz = w0.drewN nq := ⟨_, rfl⟩
    rw [← hwz]
    have HGZ := Lib.hid (show w.grownBy wz (some p) from hwz ▸ (grown_of_below (below_drewN H0.out nq) (some p)))
    have HLZ := Lib.hid (show Lk wz p x (some ad) ns.length sC s from hwz ▸ HL0.out)
    have HZ := Lib.hid (show Below wz.heap.size wz wz ∧ wz.cell? ⟨p, 9, none⟩ = some (.string s) ∧ wz.cell? ⟨p, 7, none⟩ = some (.int .i64 x.first) ∧ wz.cell? ⟨w.heap.size, 0, none⟩ = some (.int .i64 q.kind) ∧ wz.cell? ⟨w.heap.size, 1, none⟩ = some (.int .i64 q.at_) ∧ wz.cell? ⟨w.heap.size, 2, none⟩ = some (.int .i64 m) ∧ wz.cell? ⟨w.heap.size, 3, none⟩ = some (.int .i64 q.add) from ⟨Below.refl _ _, by subst hwz; exact HQ.out⟩)
    have hwp' : p < wz.heap.size := by rw [hwz]; exact hwp
    have hwb' : w.heap.size < wz.heap.size := by rw [hwz]; exact hwb
    clear hwz i0 z8 q2
    obtain ⟨hBZ, z9, z7, q0, q1, q2, q3⟩ := HZ.out
    have z7' := z7
    have HC0 := Lib.hid (show Below wz.heap.size wz wz ∧ wz.cell? ⟨p, 9, none⟩ = some (.string s) ∧ wz.cell? ⟨p, 7, none⟩ = some (.int .i64 x.first) ∧ wz.cell? ⟨w.heap.size, 0, none⟩ = some (.int .i64 q.kind) ∧ wz.cell? ⟨w.heap.size, 1, none⟩ = some (.int .i64 q.at_) ∧ wz.cell? ⟨w.heap.size, 2, none⟩ = some (.int .i64 m) ∧ wz.cell? ⟨w.heap.size, 3, none⟩ = some (.int .i64 q.add) from ⟨Below.refl _ _, by assumption, by assumption, by assumption, by assumption, by assumption, by assumption⟩)
    have HCD := Lib.hid (show ∀ W' : World, (Below wz.heap.size wz W' ∧ W'.cell? ⟨p, 9, none⟩ = some (.string s) ∧ W'.cell? ⟨p, 7, none⟩ = some (.int .i64 x.first) ∧ W'.cell? ⟨w.heap.size, 0, none⟩ = some (.int .i64 q.kind) ∧ W'.cell? ⟨w.heap.size, 1, none⟩ = some (.int .i64 q.at_) ∧ W'.cell? ⟨w.heap.size, 2, none⟩ = some (.int .i64 m) ∧ W'.cell? ⟨w.heap.size, 3, none⟩ = some (.int .i64 q.add)) → (Below wz.heap.size wz W'.drew ∧ W'.drew.cell? ⟨p, 9, none⟩ = some (.string s) ∧ W'.drew.cell? ⟨p, 7, none⟩ = some (.int .i64 x.first) ∧ W'.drew.cell? ⟨w.heap.size, 0, none⟩ = some (.int .i64 q.kind) ∧ W'.drew.cell? ⟨w.heap.size, 1, none⟩ = some (.int .i64 q.at_) ∧ W'.drew.cell? ⟨w.heap.size, 2, none⟩ = some (.int .i64 m) ∧ W'.drew.cell? ⟨w.heap.size, 3, none⟩ = some (.int .i64 q.add)) from fun W' ⟨b, a0, a1, a2, a3, a4, a5⟩ => ⟨b.drew, a0, a1, a2, a3, a4, a5⟩)
    have HCS := Lib.hid (show ∀ W' W2 : World, (Below wz.heap.size wz W' ∧ W'.cell? ⟨p, 9, none⟩ = some (.string s) ∧ W'.cell? ⟨p, 7, none⟩ = some (.int .i64 x.first) ∧ W'.cell? ⟨w.heap.size, 0, none⟩ = some (.int .i64 q.kind) ∧ W'.cell? ⟨w.heap.size, 1, none⟩ = some (.int .i64 q.at_) ∧ W'.cell? ⟨w.heap.size, 2, none⟩ = some (.int .i64 m) ∧ W'.cell? ⟨w.heap.size, 3, none⟩ = some (.int .i64 q.add)) → Below W'.heap.size W' W2 → (Below wz.heap.size wz W2 ∧ W2.cell? ⟨p, 9, none⟩ = some (.string s) ∧ W2.cell? ⟨p, 7, none⟩ = some (.int .i64 x.first) ∧ W2.cell? ⟨w.heap.size, 0, none⟩ = some (.int .i64 q.kind) ∧ W2.cell? ⟨w.heap.size, 1, none⟩ = some (.int .i64 q.at_) ∧ W2.cell? ⟨w.heap.size, 2, none⟩ = some (.int .i64 m) ∧ W2.cell? ⟨w.heap.size, 3, none⟩ = some (.int .i64 q.add)) from fun W' W2 ⟨b, a0, a1, a2, a3, a4, a5⟩ hb => have s := b.size; ⟨b.trans (hb.mono s), (hb.cell (by first | omega | (simp; omega) | (simp only [block_of_add]; omega))).trans a0, (hb.cell (by first | omega | (simp; omega) | (simp only [block_of_add]; omega))).trans a1, (hb.cell (by first | omega | (simp; omega) | (simp only [block_of_add]; omega))).trans a2, (hb.cell (by first | omega | (simp; omega) | (simp only [block_of_add]; omega))).trans a3, (hb.cell (by first | omega | (simp; omega) | (simp only [block_of_add]; omega))).trans a4, (hb.cell (by first | omega | (simp; omega) | (simp only [block_of_add]; omega))).trans a5⟩)
    have HCA := Lib.hid (show ∀ (W' : World) (o : Obj), (Below wz.heap.size wz W' ∧ W'.cell? ⟨p, 9, none⟩ = some (.string s) ∧ W'.cell? ⟨p, 7, none⟩ = some (.int .i64 x.first) ∧ W'.cell? ⟨w.heap.size, 0, none⟩ = some (.int .i64 q.kind) ∧ W'.cell? ⟨w.heap.size, 1, none⟩ = some (.int .i64 q.at_) ∧ W'.cell? ⟨w.heap.size, 2, none⟩ = some (.int .i64 m) ∧ W'.cell? ⟨w.heap.size, 3, none⟩ = some (.int .i64 q.add)) → (Below wz.heap.size wz (W'.alloc o) ∧ (W'.alloc o).cell? ⟨p, 9, none⟩ = some (.string s) ∧ (W'.alloc o).cell? ⟨p, 7, none⟩ = some (.int .i64 x.first) ∧ (W'.alloc o).cell? ⟨w.heap.size, 0, none⟩ = some (.int .i64 q.kind) ∧ (W'.alloc o).cell? ⟨w.heap.size, 1, none⟩ = some (.int .i64 q.at_) ∧ (W'.alloc o).cell? ⟨w.heap.size, 2, none⟩ = some (.int .i64 m) ∧ (W'.alloc o).cell? ⟨w.heap.size, 3, none⟩ = some (.int .i64 q.add)) from fun W' o hc => HCS.out W' (W'.alloc o) hc ((Below.refl _ _).alloc (Nat.le_refl _) o))
    have HCX := Lib.hid (show ∀ (W' : World) (bX oX : Nat) (vX : Value), wz.heap.size ≤ bX → (Below wz.heap.size wz W' ∧ W'.cell? ⟨p, 9, none⟩ = some (.string s) ∧ W'.cell? ⟨p, 7, none⟩ = some (.int .i64 x.first) ∧ W'.cell? ⟨w.heap.size, 0, none⟩ = some (.int .i64 q.kind) ∧ W'.cell? ⟨w.heap.size, 1, none⟩ = some (.int .i64 q.at_) ∧ W'.cell? ⟨w.heap.size, 2, none⟩ = some (.int .i64 m) ∧ W'.cell? ⟨w.heap.size, 3, none⟩ = some (.int .i64 q.add)) → (Below wz.heap.size wz (W'.setCell ⟨bX, oX, none⟩ vX) ∧ (W'.setCell ⟨bX, oX, none⟩ vX).cell? ⟨p, 9, none⟩ = some (.string s) ∧ (W'.setCell ⟨bX, oX, none⟩ vX).cell? ⟨p, 7, none⟩ = some (.int .i64 x.first) ∧ (W'.setCell ⟨bX, oX, none⟩ vX).cell? ⟨w.heap.size, 0, none⟩ = some (.int .i64 q.kind) ∧ (W'.setCell ⟨bX, oX, none⟩ vX).cell? ⟨w.heap.size, 1, none⟩ = some (.int .i64 q.at_) ∧ (W'.setCell ⟨bX, oX, none⟩ vX).cell? ⟨w.heap.size, 2, none⟩ = some (.int .i64 m) ∧ (W'.setCell ⟨bX, oX, none⟩ vX).cell? ⟨w.heap.size, 3, none⟩ = some (.int .i64 q.add)) from fun W' bX oX vX hbX ⟨b, a0, a1, a2, a3, a4, a5⟩ => ⟨b.setCell (p := ⟨bX, oX, none⟩) hbX vX, (((Below.refl _ _).setCell (p := ⟨bX, oX, none⟩) hbX vX).cell (by first | omega | (simp; omega) | (simp only [block_of_add]; omega))).trans a0, (((Below.refl _ _).setCell (p := ⟨bX, oX, none⟩) hbX vX).cell (by first | omega | (simp; omega) | (simp only [block_of_add]; omega))).trans a1, (((Below.refl _ _).setCell (p := ⟨bX, oX, none⟩) hbX vX).cell (by first | omega | (simp; omega) | (simp only [block_of_add]; omega))).trans a2, (((Below.refl _ _).setCell (p := ⟨bX, oX, none⟩) hbX vX).cell (by first | omega | (simp; omega) | (simp only [block_of_add]; omega))).trans a3, (((Below.refl _ _).setCell (p := ⟨bX, oX, none⟩) hbX vX).cell (by first | omega | (simp; omega) | (simp only [block_of_add]; omega))).trans a4, (((Below.refl _ _).setCell (p := ⟨bX, oX, none⟩) hbX vX).cell (by first | omega | (simp; omega) | (simp only [block_of_add]; omega))).trans a5⟩)
    have HCL := Lib.hid (show ∀ W' : World, (Below wz.heap.size wz W' ∧ W'.cell? ⟨p, 9, none⟩ = some (.string s) ∧ W'.cell? ⟨p, 7, none⟩ = some (.int .i64 x.first) ∧ W'.cell? ⟨w.heap.size, 0, none⟩ = some (.int .i64 q.kind) ∧ W'.cell? ⟨w.heap.size, 1, none⟩ = some (.int .i64 q.at_) ∧ W'.cell? ⟨w.heap.size, 2, none⟩ = some (.int .i64 m) ∧ W'.cell? ⟨w.heap.size, 3, none⟩ = some (.int .i64 q.add)) → Below wz.heap.size wz W' from fun W' hc => hc.1)
    have cB := Lib.hid (fun W (h : W.cell? ⟨p, 7, none⟩ = some (.int .i64 x.first)) => base_any x p W h h0 h1)
    rw [HBO.out] at cB
    clear z9 z7 q0 q1 q2 q3 z7' hBZ
    go_region_held3 (fun W' => Below wz.heap.size wz W' ∧ W'.cell? ⟨p, 9, none⟩ = some (.string s) ∧ W'.cell? ⟨p, 7, none⟩ = some (.int .i64 x.first) ∧ W'.cell? ⟨w.heap.size, 0, none⟩ = some (.int .i64 q.kind) ∧ W'.cell? ⟨w.heap.size, 1, none⟩ = some (.int .i64 q.at_) ∧ W'.cell? ⟨w.heap.size, 2, none⟩ = some (.int .i64 m) ∧ W'.cell? ⟨w.heap.size, 3, none⟩ = some (.int .i64 q.add)) (first | exact HC0.out | exact HCD.out _ HC0.out | exact HCS.out _ _ (by assumption) (by assumption) | exact HCS.out _ _ HC0.out (by assumption) | exact HCS.out _ _ (HCD.out _ HC0.out) (by assumption) | exact HCS.out _ _ (HCD.out _ (by assumption)) (by assumption) | exact HCD.out _ (by assumption) | exact HCA.out _ _ (by assumption) | exact HCA.out _ _ HC0.out | exact HCA.out _ _ (HCD.out _ HC0.out) | exact HCD.out _ (HCA.out _ _ (by assumption)) | exact HCA.out _ _ (HCS.out _ _ HC0.out (by assumption)) | exact HCA.out _ _ (HCS.out _ _ (HCD.out _ HC0.out) (by assumption)) | exact HCX.out _ _ _ _ (Nat.le_refl _) (by assumption) | exact HCX.out _ _ _ _ (Nat.le_refl _) (HCS.out _ _ (HCA.out _ _ HC0.out) (by assumption)) | exact HCX.out _ _ _ _ (Nat.le_refl _) (HCS.out _ _ (HCD.out _ (HCA.out _ _ HC0.out)) (by assumption)) | assumption) (first | (go_at_call 222; (with_reducible refine (cB.out _ ?_).mono ?_); (first | exact HC0.out.2.2.1 | exact (HCD.out _ HC0.out).2.2.1 | exact (And.right (And.right (by assumption))).1); rintro e w' ⟨rfl, rfl⟩) | (go_at_call 223; (with_reducible refine (cA.out _).mono ?_); rintro e w3 ⟨rfl, hb3⟩))
    have hB := HCL.out _ (by assumption)
    have HBZ := Lib.hid hB
    have hLq := Lib.hid (HLZ.out.kept hB)
    have z9 : w3.cell? ⟨p, 9, none⟩ = some (.string s) := hLq.out.cell 9
    have z9f := hLq.out.frozen 9
    clear hB
    go_wp2_with fail
    go_ret
    exact ⟨rfl, hLq.out.put _, HGZ.out.trans ((grown_of_below HBZ.out (some p)).trans (grown_setL _ p 9 _))⟩

end Go.Proofs.YtjiedaialianmaaGreat
end

section

namespace Go.Proofs.YtjiedaialianmaaGreat
open Go.RowKit
open Gs (Tx)

theorem addrs_length {k : Krn} {l : List Plc} : ∀ {r : List Imp}, (addrsOf k l r).2 = 0 → (addrsOf k l r).1.length = r.length
  | [], _ => rfl
  | i :: r, h => by
    unfold addrsOf at h ⊢
    by_cases h1 : (addrOf k l i).2 = 0
    · rw [if_neg (by omega)] at h ⊢
      by_cases h2 : (addrsOf k l r).2 = 0
      · rw [if_neg (by omega)]
        simp [addrs_length h2]
      · rw [if_pos h2] at h; exact absurd h h2
    · rw [if_pos h1] at h; exact absurd h h1
theorem pats_ok {z ni : Int} : ∀ {l : List Pat} {e : Int}, patsErr z ni e l = 0 → ∀ p ∈ l, p.sym < ni
  | p :: l, e, h, q, hq => by
    unfold patsErr at h
    by_cases h1 : patErr z ni e p = 0
    · rw [if_neg (by omega)] at h
      rcases List.mem_cons.1 hq with rfl | hq
      · unfold patErr at h1
        split at h1
        · omega
        · split at h1
          · omega
          · omega
      · exact pats_ok h q hq
    · rw [if_pos h1] at h; exact absurd h h1
theorem mod_pats {m : Mod} (h : modErr m = 0) : ∀ p ∈ m.pa, p.sym < m.im.length := by
  have hf := modErr_facts h
  have h5 := hf.2.2.2.2.2.2.2.2.1
  have h6 := hf.2.2.2.2.2.2.2.2.2.1
  unfold modErr at h
  obtain ⟨a1, a2, a3, a4, a5, a6, a7, a8, _, _, a9⟩ := hf
  rw [if_neg (by simp [a1, a2]), if_neg (by omega), if_neg (by omega), if_neg (by omega), if_neg (by omega), if_neg (by omega)] at h
  exact pats_ok h
theorem patchAll_err {at_ : List Int} {base : Int} {pa : List Pat} {s : ByteArray} {j : Nat} (h : j < pa.length) (e : applyErr s.size pa[j].kind pa[j].at_ pa[j].add (symOf at_ base pa[j]) base ≠ 0) :
    patchAll at_ base (pa.drop j) s = (⟨#[]⟩, applyErr s.size pa[j].kind pa[j].at_ pa[j].add (symOf at_ base pa[j]) base) := by
  rw [List.drop_eq_getElem_cons h, patchAll, if_pos e]
theorem patchAll_next {at_ : List Int} {base : Int} {pa : List Pat} {s : ByteArray} {j : Nat} (h : j < pa.length) (e : applyErr s.size pa[j].kind pa[j].at_ pa[j].add (symOf at_ base pa[j]) base = 0) :
    patchAll at_ base (pa.drop (j + 1)) (applyStr s pa[j].kind pa[j].at_ pa[j].add (symOf at_ base pa[j]) base) = patchAll at_ base (pa.drop j) s := by
  conv => rhs; rw [List.drop_eq_getElem_cons h, patchAll, if_neg (by omega)]
theorem patchAll_end {at_ : List Int} {base : Int} {pa : List Pat} {s : ByteArray} {j : Nat} (h : ¬ j < pa.length) : patchAll at_ base (pa.drop j) s = (s, 0) := by
  rw [List.drop_eq_nil_of_le (by omega)]; rfl
theorem pad_bytes (n : Nat) (s : ByteArray) : s ++ (ffs n).extract s.size (ffs n).size = bs (pad n (tx s)) := by
  refine ba_eq ?_
  rw [ba_append]
  rw [Lib.extract_to_end]
  show tx s ++ ((List.replicate n 255).toArray.toList.drop s.size) = (pad n (tx s)).toArray.toList
  simp only [pad, List.drop_replicate]
  rfl

set_option maxHeartbeats 8000000 in
set_option maxRecDepth 100000 in
theorem image_any (k : Krn) (A : Option Addr) (c : Nat) (l : List Plc) (x : Plc) (w : World) (hk : k.ok w) (h : PlsOk w A l) (hx : x.m.ok w) (hp : placedErr k l = 0) (hm : modErr x.m = 0) (h0 : 0 ≤ x.first) (h1 : x.first ≤ 16) :
    Calls Tryz.prog 88 #[k.v, .slice A l.length c, x.v] w fun e w' => e = .returned (.tuple #[.string (bs (imgOf k l x).1), .int .i64 (imgOf k l x).2]) ∧ Below w.heap.size w w' := by
  obtain ⟨X, hX⟩ : ∃ X, X = x := ⟨_, rfl⟩
  obtain ⟨⟨nm, mj, mn, tt, ex, im, pa, eA, eC, iA, iC, pA, pC⟩, fi⟩ := x
  obtain ⟨wk, hwk⟩ : ∃ wk, wk = w.alloc (.cells #[.int .i64 k.major, .int .i64 k.minor, .slice k.eA k.ex.length k.eC] 24) := ⟨_, rfl⟩
  obtain ⟨g0, g1, g2, hzk, hbk⟩ := box3 hwk
  obtain ⟨w0, hw0⟩ : ∃ w0, w0 = wk.alloc (.cells #[.string nm, .int .i64 mj, .int .i64 mn, .string tt, .slice eA ex.length eC, .slice iA im.length iC, .slice pA pa.length pC, .int .i64 fi] 83) := ⟨_, rfl⟩
  obtain ⟨f0, f1, f2, f3, f4, f5, f6, f7, hz0, hb0⟩ := box8 hw0
  rw [hzk] at f0 f1 f2 f3 f4 f5 f6 f7 hz0 hb0
  have k0 := (hb0.cell (p := ⟨w.heap.size, 0, none⟩) (by simp)).trans g0
  have k1 := (hb0.cell (p := ⟨w.heap.size, 1, none⟩) (by simp)).trans g1
  have k2 := (hb0.cell (p := ⟨w.heap.size, 2, none⟩) (by simp)).trans g2
  have hbw := hbk.trans (hb0.mono (by omega))
  have H0 := Lib.hid hbw
  have hwk' := hwk.symm
  have hw0' := hw0.symm
  have hfm := modErr_facts hm
  have HPS := Lib.hid (show ∀ p ∈ pa, p.sym < im.length from mod_pats hm)
  obtain ⟨mt1, mt2, mt3⟩ : (tt.size : Int) ≤ 64 * manyOf X.m ∧ 64 * manyOf X.m < tt.size + 64 ∧ 0 ≤ manyOf X.m := by rw [hX]; exact many_text _
  have hMany : 1 ≤ manyOf X.m ∧ manyOf X.m ≤ 4 := by rw [hX]; exact many_ok hm
  have ht : tt.size ≤ 256 := hfm.2.2.1
  have hi6 : im.length ≤ 6 := hfm.2.2.2.2.2.2.1
  have hpl : pa.length ≤ 12 := hfm.2.2.2.2.2.2.2.1
  have hf0 : 0 ≤ X.first := by rw [hX]; exact h0
  have hf1 : X.first ≤ 16 := by rw [hX]; exact h1
  have cA := Lib.hid (Addresses_any k A c l nm tt mj mn ex im pa eA iA pA eC iC pC w0 (hk.below hbw) (h.below hbw) (hx.below hbw).im hi6 hp)
  have cM := Lib.hid (show ∀ W, Calls Tryz.prog 164 #[.agg #[.string nm, .int .i64 mj, .int .i64 mn, .string tt, .slice eA ex.length eC, .slice iA im.length iC, .slice pA pa.length pC]] W fun e w' => e = .returned (.int .i64 (manyOf X.m)) ∧ Below W.heap.size W w' from fun W => by rw [hX]; exact Many_any ⟨nm, mj, mn, tt, ex, im, pa, eA, eC, iA, iC, pA, pC⟩ W (show tt.size ≤ big by unfold big; omega))
  have HAL := Lib.hid (addrs_length (k := k) (l := l) (r := im))
  have HPA := Lib.hid (show Row Pat.cells 4 w0 pA pa from (hx.below hbw).pa.1)
  have HLK := Lib.hid (show ∀ (W : World) sA n sC, Lk (W.alloc (.cells #[.string nm, .int .i64 mj, .int .i64 mn, .string tt, .slice eA ex.length eC, .slice iA im.length iC, .slice pA pa.length pC, .int .i64 fi, .slice sA n sC, .string tt] 207)) W.heap.size X sA n sC tt from fun W sA n sC => by rw [hX]; exact heap_alloc_new _ _)
  have hI : imgOf k l X = if (addrsOf k l im).2 ≠ 0 then ([], (addrsOf k l im).2) else if (patchAll (addrsOf k l im).1 (baseOf X) pa tt).2 ≠ 0 then ([], (patchAll (addrsOf k l im).1 (baseOf X) pa tt).2) else (pad (64 * (manyOf X.m).toNat) (tx (patchAll (addrsOf k l im).1 (baseOf X) pa tt).1), 0) := by rw [hX]; rfl
  change Calls Tryz.prog 88 #[k.v, .slice A l.length c, .agg #[.string nm, .int .i64 mj, .int .i64 mn, .string tt, .slice eA ex.length eC, .slice iA im.length iC, .slice pA pa.length pC, .int .i64 fi]] w _
  rw [← hX]
  obtain ⟨I, hII⟩ : ∃ I, I = imgOf k l X := ⟨_, rfl⟩
  rw [← hII] at hI ⊢
  generalize addrsOf k l im = ad at *
  obtain ⟨ns, er⟩ := ad
  simp only at cA HAL hI
  clear hII hwk hw0 hbk hb0 hbw g0 g1 g2 hk h hx hp hm hfm h0 h1 hX
  have hz1 : w.heap.size + 1 < w0.heap.size := by omega
  have hz2 : w.heap.size < w0.heap.size := by omega
  clear hz0
  by_cases te : er = 0
  · subst te
    rw [if_neg (by simp)] at hI
    have hnl := HAL.out rfl
    obtain ⟨R, hRR⟩ : ∃ R, R = patchAll ns (baseOf X) pa tt := ⟨_, rfl⟩
    rw [← hRR] at hI
    have HRR := Lib.hid hRR.symm
    have HI := Lib.hid hI
    have HNL := Lib.hid hnl
    clear hI hRR hnl HAL
    go_enter Tryz.func88, Tryz.ntmps88
    go_wp2_with (go_at_call 135; (with_reducible refine (cA.out).mono ?_); rintro e w2 ⟨⟨sA, sC, rfl, hr2⟩, hb2⟩; have HR2 := Lib.hid hr2; have HB2 := Lib.hid hb2; obtain ⟨hc2, hf2⟩ := bcell hb2; have hz3 : w.heap.size + 1 < w2.heap.size := (by have := hb2.size; omega); have hz4 : w.heap.size < w2.heap.size := (by omega); clear hr2 hb2)
    have HL0 := Lib.hid (HLK.out w2 sA ns.length sC)
    have HAL0 := Lib.hid (fun cs => (Below.refl w2.heap.size w2).alloc (Nat.le_refl _) (.cells cs 207))
    have HPA2 := Lib.hid (HPA.out.below HB2.out)
    clear hc2 hf2
    go_loopw [37] (fun i wr => ∃ (j : Nat) (s : ByteArray), j ≤ pa.length ∧ i = .int .i64 j ∧ Lk wr w2.heap.size X sA ns.length sC s ∧ s.size = tt.size ∧ patchAll ns (baseOf X) (pa.drop j) s = R ∧ Below w2.heap.size w2 wr) (fun i _ => pa.length - (intOf i).toNat)
    case atStart => exact ⟨0, tt, by omega, rfl, HL0.out, rfl, HRR.out, HAL0.out _⟩
    case round =>
      obtain ⟨j, s, hj, rfl, hL, hsz, hR, hb⟩ := hrel
      have HL := Lib.hid hL
      have HSZ := Lib.hid hsz
      have HR := Lib.hid hR
      have HB := Lib.hid hb
      have hsz9 : s.size ≤ 256 := by omega
      clear hL hsz hR
      by_cases hlt : j < pa.length
      · have hlt' : (j : Int) < pa.length := by omega
        obtain ⟨pd, rfl, hpb, a0, a1, a2, a3⟩ := pat_at HPA2.out hb j hlt
        have hsy := HPS.out pa[j] (List.getElem_mem _)
        have E1 := Lib.hid (fun e => (patchAll_err (at_ := ns) (base := baseOf X) (s := s) hlt e).symm.trans HR.out)
        have E2 := Lib.hid (fun e => (patchAll_next (at_ := ns) (base := baseOf X) (s := s) hlt e).trans HR.out)
        have E3 := Lib.hid (show applyErr s.size pa[j].kind pa[j].at_ pa[j].add (symOf ns (baseOf X) pa[j]) (baseOf X) = 0 → (applyStr s pa[j].kind pa[j].at_ pa[j].add (symOf ns (baseOf X) pa[j]) (baseOf X)).size = s.size from fun e => applyStr_size e)
        obtain ⟨q, hq⟩ : ∃ q, q = pa[j]'hlt := ⟨_, rfl⟩
        rw [← hq] at a0 a1 a2 a3 hsy
        simp only [← hq] at E1 E2 E3
        obtain ⟨wq, hwq⟩ : ∃ wq, wq = wr.alloc (.cells #[.int .i64 q.kind, .int .i64 q.at_, .int .i64 q.sym, .int .i64 q.add] 180) := ⟨_, rfl⟩
        obtain ⟨y0, y1, y2, y3, hzq, hbq⟩ := box4 hwq
        have hwq' := hwq.symm
        have hwz : wr.heap.size < wq.heap.size := by omega
        have cP := Lib.hid (lpatch_any X w2.heap.size sA sC ns s q wq (HL.out.kept hbq) ((HR2.out.below hb).below hbq) (by omega) hf0 hf1 (by have := HNL.out; omega))
        have HBQ := Lib.hid (hb.trans (hbq.mono hb.size))
        obtain ⟨E, hE⟩ : ∃ E, E = applyErr s.size q.kind q.at_ q.add (symOf ns (baseOf X) q) (baseOf X) := ⟨_, rfl⟩
        obtain ⟨T, hT⟩ : ∃ T, T = applyStr s q.kind q.at_ q.add (symOf ns (baseOf X) q) (baseOf X) := ⟨_, rfl⟩
        simp only [← hE, ← hT] at cP E1 E2 E3
        clear hq hwq hzq hbq hE hT hb hsy
        by_cases tE : E = 0
        · subst tE
          have e2 := Lib.hid (E2.out rfl)
          have e3 := Lib.hid ((E3.out rfl).trans HSZ.out)
          go_wp2_with (go_at_call 163; (with_reducible refine (cP.out).mono ?_); rintro e w5 ⟨rfl, hL5, hg5⟩; have HL5 := Lib.hid hL5; have HG5 := Lib.hid hg5; clear hL5 hg5)
          go_roundw
          case rel => exact ⟨j + 1, T, by omega, by go_num, HL5.out, e3.out, e2.out, HBQ.out.grown HG5.out HBQ.out.size (fun g hg => by injection hg with hg; omega)⟩
          case measure => (simp [intOf]; try omega)
        · have e1 := Lib.hid (E1.out tE)
          have tE' : (E != 0) = true := by simp [tE]
          have HTE := Lib.hid tE
          clear tE
          go_wp2_with (go_at_call 163; (with_reducible refine (cP.out).mono ?_); rintro e w5 ⟨rfl, hL5, hg5⟩; have HL5 := Lib.hid hL5; have HG5 := Lib.hid hg5; clear hL5 hg5)
          go_ret2
          refine ⟨?_, H0.out.trans ((HB2.out.trans ((HBQ.out.grown HG5.out HBQ.out.size (fun g hg => by injection hg with hg; omega)).mono HB2.out.size)).mono H0.out.size)⟩
          rw [HI.out, ← e1.out, if_pos HTE.out]; rfl
      · have e1 := Lib.hid ((patchAll_end (at_ := ns) (base := baseOf X) (s := s) hlt).symm.trans HR.out)
        obtain rfl : j = pa.length := by omega
        have HBW := Lib.hid (H0.out.trans ((HB2.out.trans (hb.mono HB2.out.size)).mono H0.out.size))
        have hb0 := HB2.out.trans (hb.mono HB2.out.size)
        have m0 := (hb0.cell (p := ⟨w.heap.size + 1, 0, none⟩) hz1).trans f0
        have m1 := (hb0.cell (p := ⟨w.heap.size + 1, 1, none⟩) hz1).trans f1
        have m2 := (hb0.cell (p := ⟨w.heap.size + 1, 2, none⟩) hz1).trans f2
        have m3 := (hb0.cell (p := ⟨w.heap.size + 1, 3, none⟩) hz1).trans f3
        have m4 := (hb0.cell (p := ⟨w.heap.size + 1, 4, none⟩) hz1).trans f4
        have m5 := (hb0.cell (p := ⟨w.heap.size + 1, 5, none⟩) hz1).trans f5
        have m6 := (hb0.cell (p := ⟨w.heap.size + 1, 6, none⟩) hz1).trans f6
        obtain ⟨M, hMM⟩ : ∃ M : Nat, manyOf X.m = M := ⟨(manyOf X.m).toNat, by omega⟩
        have cB := Lib.hid (fun W => lblank_any M W (by omega))
        have HPB := Lib.hid (pad_bytes (64 * M) s)
        have HFS := Lib.hid (ffs_size (64 * M))
        rw [hMM] at cM mt1 mt2
        have HMN := Lib.hid (show (manyOf X.m).toNat = M by omega)
        have hM4 : M ≤ 4 := by omega
        have hs9 : s.size ≤ 64 * M := by have := HSZ.out; omega
        clear hb hb0 hlt f0 f1 f2 f3 f4 f5 f6 f7 k0 k1 k2 mt3 hMany hMM
        go_wp2_with (go_at_call 164; (with_reducible refine (cM.out _).mono ?_); rintro e w6 ⟨rfl, hb6⟩; have HB6 := Lib.hid hb6; have hL6 := HL.out.kept hb6; have z9 : w6.cell? ⟨w2.heap.size, 9, none⟩ = some (.string s) := hL6.cell 9; have hlt6 := hL6.lt; clear hb6 hL6 m0 m1 m2 m3 m4 m5 m6)
        have HC0 := Lib.hid (show Below w6.heap.size w6 w6 ∧ w6.cell? ⟨w2.heap.size, 9, none⟩ = some (.string s) from ⟨Below.refl _ _, by assumption⟩)
        have HCD := Lib.hid (show ∀ W' : World, (Below w6.heap.size w6 W' ∧ W'.cell? ⟨w2.heap.size, 9, none⟩ = some (.string s)) → (Below w6.heap.size w6 W'.drew ∧ W'.drew.cell? ⟨w2.heap.size, 9, none⟩ = some (.string s)) from fun W' ⟨b, a0⟩ => ⟨b.drew, a0⟩)
        have HCS := Lib.hid (show ∀ W' W2 : World, (Below w6.heap.size w6 W' ∧ W'.cell? ⟨w2.heap.size, 9, none⟩ = some (.string s)) → Below W'.heap.size W' W2 → (Below w6.heap.size w6 W2 ∧ W2.cell? ⟨w2.heap.size, 9, none⟩ = some (.string s)) from fun W' W2 ⟨b, a0⟩ hb => have s := b.size; ⟨b.trans (hb.mono s), (hb.cell (by first | omega | (simp; omega) | (simp only [block_of_add]; omega))).trans a0⟩)
        have HCA := Lib.hid (show ∀ (W' : World) (o : Obj), (Below w6.heap.size w6 W' ∧ W'.cell? ⟨w2.heap.size, 9, none⟩ = some (.string s)) → (Below w6.heap.size w6 (W'.alloc o) ∧ (W'.alloc o).cell? ⟨w2.heap.size, 9, none⟩ = some (.string s)) from fun W' o hc => HCS.out W' (W'.alloc o) hc ((Below.refl _ _).alloc (Nat.le_refl _) o))
        have HCX := Lib.hid (show ∀ (W' : World) (bX oX : Nat) (vX : Value), w6.heap.size ≤ bX → (Below w6.heap.size w6 W' ∧ W'.cell? ⟨w2.heap.size, 9, none⟩ = some (.string s)) → (Below w6.heap.size w6 (W'.setCell ⟨bX, oX, none⟩ vX) ∧ (W'.setCell ⟨bX, oX, none⟩ vX).cell? ⟨w2.heap.size, 9, none⟩ = some (.string s)) from fun W' bX oX vX hbX ⟨b, a0⟩ => ⟨b.setCell (p := ⟨bX, oX, none⟩) hbX vX, (((Below.refl _ _).setCell (p := ⟨bX, oX, none⟩) hbX vX).cell (by first | omega | (simp; omega) | (simp only [block_of_add]; omega))).trans a0⟩)
        have HCL := Lib.hid (show ∀ W' : World, (Below w6.heap.size w6 W' ∧ W'.cell? ⟨w2.heap.size, 9, none⟩ = some (.string s)) → Below w6.heap.size w6 W' from fun W' hc => hc.1)
        generalize ffs (64 * M) = F at *
        have g1 : s.size ≤ F.size := by rw [HFS.out]; exact hs9
        have g2 : F.size ≤ 256 := by rw [HFS.out]; omega
        have g3 : ∀ W, (Op.stringOp .add s (F.extract s.size F.size)).run Tryz.prog W = .ok (.string (s ++ F.extract s.size F.size)) W := fun W => run_string_add_sum _ _ _ (by rw [ByteArray.size_extract]; omega)
        clear z9
        go_region_held3 (fun W' => Below w6.heap.size w6 W' ∧ W'.cell? ⟨w2.heap.size, 9, none⟩ = some (.string s)) (first | exact HC0.out | exact HCD.out _ HC0.out | exact HCS.out _ _ (by assumption) (by assumption) | exact HCS.out _ _ HC0.out (by assumption) | exact HCS.out _ _ (HCD.out _ HC0.out) (by assumption) | exact HCS.out _ _ (HCD.out _ (by assumption)) (by assumption) | exact HCD.out _ (by assumption) | exact HCA.out _ _ (by assumption) | exact HCA.out _ _ HC0.out | exact HCA.out _ _ (HCD.out _ HC0.out) | exact HCD.out _ (HCA.out _ _ (by assumption)) | exact HCA.out _ _ (HCS.out _ _ HC0.out (by assumption)) | exact HCA.out _ _ (HCS.out _ _ (HCD.out _ HC0.out) (by assumption)) | exact HCX.out _ _ _ _ (Nat.le_refl _) (by assumption) | exact HCX.out _ _ _ _ (Nat.le_refl _) (HCS.out _ _ (HCA.out _ _ HC0.out) (by assumption)) | exact HCX.out _ _ _ _ (Nat.le_refl _) (HCS.out _ _ (HCD.out _ (HCA.out _ _ HC0.out)) (by assumption)) | assumption) (first | (go_at_call 90; (with_reducible refine (cB.out _).mono ?_); rintro e w7 ⟨rfl, hb7⟩))
        have hB := Lib.hid (HCL.out _ (by assumption))
        go_wp2_with fail
        go_ret2
        refine ⟨?_, HBW.out.trans ((HB6.out.trans (hB.out.mono HB6.out.size)).mono HBW.out.size)⟩
        rw [HI.out, ← e1.out, if_neg (by simp), HMN.out]
        show _ = Ending.returned (.tuple #[.string (bs (pad (64 * M) (tx s))), .int .i64 0])
        rw [← HPB.out]; rfl
  · rw [if_pos te] at hI
    have te' : (er != 0) = true := by simp [te]
    have HI := Lib.hid hI
    clear hI te HAL
    go_enter Tryz.func88, Tryz.ntmps88
    go_wp2_with (go_at_call 135; (with_reducible refine (cA.out).mono ?_); rintro e w2 ⟨⟨sA, sC, rfl, hr2⟩, hb2⟩; have HB2 := Lib.hid hb2; clear hr2 hb2)
    go_ret2
    exact ⟨by rw [HI.out]; rfl, H0.out.trans (HB2.out.mono H0.out.size)⟩

end Go.Proofs.YtjiedaialianmaaGreat
end

section

namespace Go.Proofs.YtjiedaialianmaaGreat
open Go.RowKit

theorem Tryz.infoByte : (Tryz.prog.info? 5).map (fun i => (i.zero, i.size, i.bytes)) = some (some (.int .u8 0), 1, 1) := by kernel_rfl
theorem Tryz.sizeBuilder : (Tryz.prog.info? 137).map (·.size) = some 2 := by kernel_rfl
/-- a block of type T can be seen as a builder -/
structure Holds (T : TypeId) : Prop where
  lies : liesAt Tryz.prog Tryz.prog.depth T (2 / Tryz.prog.cellsOf T) 0 137 1 = true
  ne : T ≠ 5
abbrev Bld (T b : Nat) (l : List UInt8) (w : World) : Prop := Lib.IsBuilder T 5 b b (Lib.byteCells l) w
abbrev Kept (b : Nat) (w w' : World) : Prop := Lib.OthersKept 5 (some b) w w'

set_option maxHeartbeats 1000000 in
set_option maxRecDepth 100000 in
theorem copyCheck_used (b : Nat) (w : World) (h0 : w.cell? ⟨b, 0, none⟩ = some (.pointer (some ⟨b, 0, none⟩))) :
    Calls Tryz.prog 165 #[.pointer (some ⟨b, 0, none⟩)] w fun e w' => e = .returned (.tuple #[]) ∧ w' = w := by
  obtain ⟨j, hj, _⟩ := Option.map_eq_some_iff.1 Tryz.sizeBuilder
  go_enter Tryz.func165, Tryz.ntmps165
  go_wp2
  rw [Lib.run_neq_ptr_same w _ Tryz.underlying134 hj]
  go_wp2
  go_end0
  exact ⟨rfl, rfl⟩

set_option maxHeartbeats 1000000 in
set_option maxRecDepth 100000 in
theorem copyCheck_fresh (T b : Nat) (hT : Holds T) (w : World) (h0 : w.cell? ⟨b, 0, none⟩ = some (.pointer none)) (hsh : w.shape? b = some (T, 2)) (hfz : w.frozen? ⟨b, 0, none⟩ = false) :
    Calls Tryz.prog 165 #[.pointer (some ⟨b, 0, none⟩)] w fun e w' => e = .returned (.tuple #[]) ∧ w' = w.setCell ⟨b, 0, none⟩ (.pointer (some ⟨b, 0, none⟩)) := by
  obtain ⟨j, hj, hjs⟩ := Option.map_eq_some_iff.1 Tryz.sizeBuilder
  go_enter Tryz.func165, Tryz.ntmps165
  go_wp2
  rw [Lib.run_to_unsafe w ⟨b, 0, none⟩ Tryz.underlying134 Tryz.underlying257 hj (by rw [hjs]; decide) hsh (Nat.zero_lt_succ 1)]
  simp only [Result.andThen]
  rw [Oper.upon_value]
  go_wp2
  rw [run_callFunc_extern Tryz.func224 (by kernel_rfl) (by kernel_rfl) (by kernel_rfl) (e := Extern.AbiNoEscape.same) (by kernel_rfl)]
  rw [Lib.run_noEscape]
  simp only [Result.andThen]
  rw [Oper.upon_value]
  go_wp2
  rw [Lib.run_from_unsafe w ⟨b, 0, none⟩ Tryz.underlying257 Tryz.underlying134 hj hsh hT.lies]
  simp only [Result.andThen]
  rw [Oper.upon_value]
  go_wp2
  go_end0
  exact ⟨rfl, rfl⟩

theorem copyCheck_any (T b : Nat) (hT : Holds T) (bs : List Value) (w : World) (h : Lib.IsBuilder T 5 b b bs w) :
    Calls Tryz.prog 165 #[.pointer (some ⟨b, 0, none⟩)] w fun e w' => e = .returned (.tuple #[]) ∧ Lib.BuilderAt T 5 b b (.pointer (some ⟨b, 0, none⟩)) bs w' ∧ Below b w w' ∧ Kept b w w' := by
  rcases h with h | h
  · refine (copyCheck_fresh T b hT w h.cell0 h.shape h.frozen0).mono ?_
    rintro e w' ⟨rfl, rfl⟩
    exact ⟨rfl, h.used _, (Below.refl b w).setCell (p := ⟨b, 0, none⟩) (Nat.le_refl _) _, (Lib.OthersKept.refl _ _ w).setCell ⟨b, 0, none⟩ rfl _⟩
  · refine (copyCheck_used b w h.cell0).mono ?_
    rintro e w' ⟨rfl, rfl⟩
    exact ⟨rfl, h, Below.refl _ _, Lib.OthersKept.refl _ _ _⟩

theorem ownsRow_kind {w : World} {B : Nat} {e : TypeId} {v : Value} {n : Nat} {xs : List Value} (h : w.ownsRow B e 1 v n xs) : ∀ g, v.ownBlock = some g → ∃ c fz, w.heap[g]? = some (.cells c e fz) := by
  intro g hg
  rcases h.2 with ⟨rfl, _⟩ | ⟨g', cap, cur, rfl, _, hgg, _⟩
  · simp [Value.ownBlock] at hg
  · simp [Value.ownBlock] at hg
    subst hg
    exact ⟨cur, _, hgg⟩

set_option maxHeartbeats 2000000 in
set_option maxRecDepth 100000 in
theorem WriteString_any (T b : Nat) (hT : Holds T) (l : List UInt8) (s : ByteArray) (w : World) (h : Bld T b l w) (hlen : l.length + s.size ≤ 100000) :
    Calls Tryz.prog 89 #[.pointer (some ⟨b, 0, none⟩), .string s] w fun e w' => (∃ u, e = .returned u) ∧ Bld T b (l ++ s.data.toList) w' ∧ Below b w w' ∧ Kept b w w' := by
  obtain ⟨i0, hi, hz0, hz1, hz2⟩ := info_parts Tryz.infoByte
  have cC := Lib.hid (copyCheck_any T b hT _ w h)
  have hne' := hT.ne
  clear h
  go_enter Tryz.func89, Tryz.ntmps89
  go_wp2_with (go_at_call 165; refine (cC.out).mono ?_)
  rintro e w1 ⟨rfl, h1, hb1, hk1⟩
  obtain ⟨hB, v, hbk, hown, hne⟩ := h1
  have hlt : b < w1.heap.size := by
    rcases Nat.lt_or_ge b w1.heap.size with h' | h'
    · exact h'
    · simp [Array.getElem?_eq_none h'] at hbk
  have c0 : w1.cell? ⟨b, 0, none⟩ = some (.pointer (some ⟨b, 0, none⟩)) := by rw [Lib.cell_of_heap hbk]; rfl
  have c1 : w1.cell? ⟨b, 1, none⟩ = some v := by rw [Lib.cell_of_heap hbk]; rfl
  rw [Lib.byteCells_length] at hown
  go_wp2_with (at_builtin; refine Lib.wpList_append_own_string _ rfl _ _ 135 9 rfl b 5 i0 Tryz.underlying135 Tryz.underlying9 hi hz0 hz1 hz2 _ _ _ rfl hown s rfl ?c3 ?c4 ?c5 ?_)
  case c3 => unfold maxLen; omega
  case c4 => omega
  case c5 => omega
  intro v' w2 hown' hgrow _
  have hb2 : w2.heap[b]? = some (.cells #[.pointer (some ⟨b, 0, none⟩), v] T (0, 0)) := by
    rw [hgrow.block b hlt (fun e => hne e.symm)]
    exact hbk
  have d0 : w2.cell? ⟨b, 0, none⟩ = some (.pointer (some ⟨b, 0, none⟩)) := by rw [Lib.cell_of_heap hb2]; rfl
  have d1 : w2.cell? ⟨b, 1, none⟩ = some v := by rw [Lib.cell_of_heap hb2]; rfl
  have f1 : w2.frozen? ⟨b, 1, none⟩ = false := Lib.frozen_of_heap hb2 1
  obtain ⟨ao, n', cap, rfl⟩ : ∃ ao n' cap, v' = .slice ao n' cap := by
    rcases hown'.2 with ⟨hv, _⟩ | ⟨g, cap, cur, hv, _⟩
    · exact ⟨_, _, _, hv⟩
    · exact ⟨_, _, _, hv⟩
  go_wp2
  go_ret2
  refine ⟨⟨_, rfl⟩, .inr ?_, ?_, ?_⟩
  · refine Lib.BuilderAt.put (T := T) (e := 5) hB hb2 (bs' := Lib.byteCells (l ++ s.data.toList)) ?_ hne'
    rw [Lib.byteCells_length, List.length_append, Lib.byteCells_append]
    have e : s.data.toList.length = s.size := by rw [Array.length_toList]; rfl
    rw [e]
    exact hown'
  · exact (hb1.grown hgrow (by omega) (fun k hk => (hown.lt k hk).1)).setCell (p := ⟨b, 1, none⟩) hB _
  · exact (hk1.grown hgrow (ownsRow_kind hown)).setCell ⟨b, 1, none⟩ rfl _

theorem Kept.heap {b k : Nat} {w w' : World} {cs : Array Value} {t : TypeId} {fr : Nat × Nat} (h : Kept b w w') (hk : w.heap[k]? = some (.cells cs t fr)) (hb : k ≠ b) (ht : t ≠ 5) : w'.heap[k]? = some (.cells cs t fr) :=
  h k _ hk (fun e => hb (Option.some.inj e)) (fun c fz e => by injection e with _ h2 _; exact ht h2)
theorem Bld.below {T b : Nat} {l : List UInt8} {w w' : World} (h : Bld T b l w) (hb : Below w.heap.size w w') : Bld T b l w' := by
  have key : ∀ p, Lib.BuilderAt T 5 b b p (Lib.byteCells l) w → Lib.BuilderAt T 5 b b p (Lib.byteCells l) w' := fun p ⟨hB, v, hbk, hown, hne⟩ => by
    have hlt : b < w.heap.size := (Array.getElem?_eq_some_iff.1 hbk).1
    refine ⟨hB, v, (hb.block b hlt).trans hbk, ⟨hown.1, ?_⟩, hne⟩
    rcases hown.2 with h0 | ⟨g, cap, cur, e1, e2, e3, e4⟩
    · exact .inl h0
    · exact .inr ⟨g, cap, cur, e1, e2, (hb.block g (Array.getElem?_eq_some_iff.1 e3).1).trans e3, e4⟩
  rcases h with h | h
  · exact .inl (key _ h)
  · exact .inr (key _ h)
theorem Kept.of_below {b : Nat} {w w' : World} (h : Below w.heap.size w w') : Kept b w w' := fun k _ hk _ _ => (h.block k (Array.getElem?_eq_some_iff.1 hk).1).trans hk
theorem Bld.lt {T b : Nat} {l : List UInt8} {w : World} (h : Bld T b l w) : b < w.heap.size := by
  rcases h with h | h <;> exact h.lt

end Go.Proofs.YtjiedaialianmaaGreat
end

section

namespace Go.Proofs.YtjiedaialianmaaGreat
open Go.RowKit
open Gs (Tx)

theorem plc_link {k : Krn} {l : List Plc} (h : linkErr k l = 0) : ∀ x ∈ l, modErr x.m = 0 ∧ 0 ≤ x.first ∧ x.first ≤ 16 := fun x hx => by
  obtain ⟨_, h2, _, _⟩ := linkErr_ok h
  obtain ⟨_, hall, _⟩ := reg_row h2
  obtain ⟨e1, e2⟩ := hall x hx
  have := many_ok e1
  simp only [regQ, Bool.and_eq_true, decide_eq_true_eq] at e2
  exact ⟨e1, by omega, by omega⟩
def aglue (pre : Tx) (r : Tx × Int) : Tx × Int := if r.2 ≠ 0 then ([], r.2) else (pre ++ r.1, 0)
theorem areaGo_bad {k : Krn} {l : List Plc} : ∀ {r : List Plc} {a : Int}, (areaGo k l r a).2 ≠ 0 → (areaGo k l r a).1 = []
  | [], a, h => absurd rfl h
  | x :: r, a, h => by
    unfold areaGo at h ⊢
    split
    · rfl
    · rename_i h1
      rw [if_neg h1] at h
      split
      · rfl
      · rename_i h2
        rw [if_neg h2] at h
        exact absurd rfl h
theorem aglue_nil {k : Krn} {l r : List Plc} {a : Int} : aglue [] (areaGo k l r a) = areaGo k l r a := by
  unfold aglue
  split
  · rename_i h; rw [← areaGo_bad h]
  · rename_i h
    have h' : (areaGo k l r a).2 = 0 := by omega
    rw [← h']; rfl
theorem area_err {k : Krn} {l : List Plc} {pre : Tx} {a : Int} {j : Nat} (hj : j < l.length) (e : (imgOf k l l[j]).2 ≠ 0) : aglue pre (areaGo k l (l.drop j) a) = ([], (imgOf k l l[j]).2) := by
  rw [List.drop_eq_getElem_cons hj]
  unfold areaGo
  rw [if_pos e]
  unfold aglue
  rw [if_pos e]
theorem area_next {k : Krn} {l : List Plc} {pre : Tx} {a : Int} {j : Nat} (hj : j < l.length) (e : (imgOf k l l[j]).2 = 0) :
    aglue (pre ++ (List.replicate (64 * (l[j].first - a)).toNat 255 ++ (imgOf k l l[j]).1)) (areaGo k l (l.drop (j + 1)) (endOf l[j])) = aglue pre (areaGo k l (l.drop j) a) := by
  rw [List.drop_eq_getElem_cons hj]
  conv => rhs; unfold areaGo
  rw [if_neg (by omega)]
  unfold aglue
  by_cases h : (areaGo k l (l.drop (j + 1)) (endOf l[j])).2 = 0
  · simp only [h, ne_eq, not_true_eq_false, if_false, List.append_assoc]
  · simp only [ne_eq, h, not_false_eq_true, if_true]
theorem area_end {k : Krn} {l : List Plc} {pre : Tx} {a : Int} {j : Nat} (hj : ¬ j < l.length) : aglue pre (areaGo k l (l.drop j) a) = (pre ++ List.replicate (64 * (16 - a)).toNat 255, 0) := by
  rw [List.drop_eq_nil_of_le (by omega)]
  unfold areaGo aglue
  rw [if_neg (by simp)]
theorem ffs_app (n : Nat) (t : Tx) : (ffs n ++ bs t).data.toList = List.replicate n 255 ++ t := by
  rw [ba_append]; rfl
theorem holdsB : Holds 137 := ⟨by kernel_rfl, by decide⟩
theorem row16_at {l : List Plc} {a : Int} {j : Nat} (h : Row16 a (l.drop j)) (hj : j < l.length) : a ≤ l[j].first ∧ 1 ≤ manyOf l[j].m ∧ manyOf l[j].m ≤ 4 ∧ Row16 (endOf l[j]) (l.drop (j + 1)) := by
  rw [List.drop_eq_getElem_cons hj] at h
  exact h

set_option maxHeartbeats 4000000 in
set_option maxRecDepth 100000 in
theorem Area_any (k : Krn) (A : Option Addr) (c : Nat) (l : List Plc) (w : World) (hk : k.ok w) (h : PlsOk w A l) :
    Calls Tryz.prog 24 #[k.v, .slice A l.length c] w fun e w' => e = .returned (.tuple #[.string (bs (areaT k l)), .int .i64 (areaErr k l)]) ∧ Below w.heap.size w w' := by
  obtain ⟨w0, hw0⟩ : ∃ w0, w0 = w.alloc (.cells #[.int .i64 k.major, .int .i64 k.minor, .slice k.eA k.ex.length k.eC] 24) := ⟨_, rfl⟩
  obtain ⟨g0, g1, g2, hz, hb0⟩ := box3 hw0
  have hz0 : w.heap.size < w0.heap.size := by omega
  have H0 := Lib.hid hb0
  have hw0' := hw0.symm
  have c1 := Lib.hid (LCheck_any k A c l w0 (hk.below hb0) (h.below hb0))
  have hlen := h.len
  unfold big at hlen
  have HP := Lib.hid h
  have HK := Lib.hid hk
  have HPL := Lib.hid (fun (e : linkErr k l = 0) => (linkErr_ok e).2.2.2)
  have HRW := Lib.hid (fun (e : linkErr k l = 0) => (reg_row (linkErr_ok e).2.1).2.2)
  have HEA := Lib.hid (fun (e : linkErr k l = 0) => plc_link e)
  obtain ⟨T, hT⟩ : ∃ T, T = areaT k l := ⟨_, rfl⟩
  obtain ⟨E, hE⟩ : ∃ E, E = areaErr k l := ⟨_, rfl⟩
  rw [← hT, ← hE]
  unfold areaT at hT
  unfold areaErr at hE
  obtain ⟨L, hL⟩ : ∃ L, L = linkErr k l := ⟨_, rfl⟩
  simp only [← hL] at c1 HPL HRW HEA hT hE
  clear hw0 hb0 hz hL h hk
  by_cases t1 : L = 0
  · subst t1
    rw [if_neg (by omega)] at hT hE
    obtain ⟨R, hRR⟩ : ∃ R, R = areaGo k l l 0 := ⟨_, rfl⟩
    rw [← hRR] at hT hE
    have HRR := Lib.hid hRR.symm
    have HTE := Lib.hid (show R = (T, E) by rw [hT, hE])
    have HRW1 := Lib.hid (HRW.out rfl)
    have HPL1 := Lib.hid (HPL.out rfl)
    have HEA1 := Lib.hid (HEA.out rfl)
    clear hT hE hRR
    go_enter Tryz.func24, Tryz.ntmps24
    go_wp2_with (go_at_call 86; (with_reducible refine (c1.out).mono ?_); rintro e w1 ⟨rfl, hb1⟩; have HB1 := Lib.hid (H0.out.trans (hb1.mono (by omega))); have k0 := (hb1.cell (p := ⟨w.heap.size, 0, none⟩) hz0).trans g0; have k1 := (hb1.cell (p := ⟨w.heap.size, 1, none⟩) hz0).trans g1; have k2 := (hb1.cell (p := ⟨w.heap.size, 2, none⟩) hz0).trans g2; have hz1 : w.heap.size < w1.heap.size := (by have := hb1.size; omega); clear hb1)
    have HN0 := Lib.hid (Lib.fresh_isBuilder 137 5 w1)
    have HAL0 := Lib.hid (fun cs => (Below.refl w1.heap.size w1).alloc (Nat.le_refl _) (.cells cs 137))
    have HK0 := Lib.hid k0
    have HK1 := Lib.hid k1
    have HK2 := Lib.hid k2
    clear g0 g1 g2 k0 k1 k2
    go_loopw [8, 21] (fun v i wr => ∃ (j : Nat) (a : Int) (pre : Tx), j ≤ l.length ∧ i = .int .i64 j ∧ v = .int .i64 a ∧ 0 ≤ a ∧ a ≤ 16 ∧ Row16 a (l.drop j) ∧ (pre.length : Int) = 64 * a ∧ Bld 137 w1.heap.size pre wr ∧ aglue pre (areaGo k l (l.drop j) a) = R ∧ Below w1.heap.size w1 wr) (fun _ i _ => l.length - (intOf i).toNat)
    case atStart => exact ⟨0, 0, [], by omega, rfl, rfl, by omega, by omega, HRW1.out, rfl, HN0.out, by rw [aglue_nil]; exact HRR.out, HAL0.out _⟩
    case round =>
      obtain ⟨j, a, pre, hj, rfl, rfl, ha0, ha1, hrw, hpl, hB, hR, hb⟩ := hrel
      have HB := Lib.hid hb
      have HBL := Lib.hid hB
      have hpb := hB.lt
      have HR := Lib.hid hR
      have HPL2 := Lib.hid hpl
      have HRW2 := Lib.hid hrw
      have hpre : pre.length ≤ 1024 := by omega
      clear hB hR hpl hrw
      by_cases hlt : j < l.length
      · have hlt' : (j : Int) < l.length := by omega
        obtain ⟨r1, r2, r3, r4⟩ := row16_at HRW2.out hlt
        obtain ⟨q1, q2, q3⟩ := HEA1.out l[j] (List.getElem_mem _)
        have hb9 := HB1.out.trans (hb.mono HB1.out.size)
        obtain ⟨ad, rfl, hab, f0, f1, f2, f3, f4, f5, f6, f7⟩ := plc_at HP.out.row hb9 j hlt
        have m0 := (hb.cell (p := ⟨w.heap.size, 0, none⟩) hz1).trans HK0.out
        have m1 := (hb.cell (p := ⟨w.heap.size, 1, none⟩) hz1).trans HK1.out
        have m2 := (hb.cell (p := ⟨w.heap.size, 2, none⟩) hz1).trans HK2.out
        have E1 := Lib.hid (fun e => (area_err (k := k) (pre := pre) (a := a) hlt e).symm.trans HR.out)
        have E2 := Lib.hid (fun e => (area_next (k := k) (pre := pre) (a := a) hlt e).trans HR.out)
        have E3 := Lib.hid (fun (e : (imgOf k l (l[j]'hlt)).2 = 0) => imgOf_length (k := k) (l := l) (x := l[j]'hlt) e)
        have cI := Lib.hid (fun W (hW : Below w.heap.size w W) => image_any k (some ad) c l l[j] W (HK.out.below hW) (HP.out.below hW) ((HP.out.each l[j] (List.getElem_mem _)).below hW) HPL1.out q1 q2 q3)
        have ht := (modErr_facts q1).2.2.1
        have cE := Lib.hid (fun W => End_any l[j] W ht q2 q3)
        have hEn : endOf l[j] = l[j].first + manyOf l[j].m := rfl
        have hle := Row16.le r4
        obtain ⟨y, hy⟩ : ∃ y, y = l[j]'hlt := ⟨_, rfl⟩
        simp only [← hy] at f0 f1 f2 f3 f4 f5 f6 f7 E1 E2 E3 cI cE hEn hle r1 r2 r3 r4 q2 q3
        have R4 := Lib.hid r4
        obtain ⟨wq, hwq⟩ : ∃ wq, wq = wr.alloc (.cells #[.string y.m.name, .int .i64 y.m.major, .int .i64 y.m.minor, .string y.m.text, .slice y.m.eA y.m.ex.length y.m.eC, .slice y.m.iA y.m.im.length y.m.iC, .slice y.m.pA y.m.pa.length y.m.pC, .int .i64 y.first] 83) := ⟨_, rfl⟩
        obtain ⟨y0, y1, y2, y3, y4, y5, y6, y7, hzq, hbq⟩ := box8 hwq
        have hhq : wq.heap[wr.heap.size]? = some (.cells #[.string y.m.name, .int .i64 y.m.major, .int .i64 y.m.minor, .string y.m.text, .slice y.m.eA y.m.ex.length y.m.eC, .slice y.m.iA y.m.im.length y.m.iC, .slice y.m.pA y.m.pa.length y.m.pC, .int .i64 y.first] 83 (0, 0)) := by rw [hwq]; exact heap_alloc_new _ _
        have HHQ := Lib.hid hhq
        have hwq' := hwq.symm
        have hwz : wr.heap.size < wq.heap.size := by omega
        have n0 := (hbq.cell (p := ⟨w.heap.size, 0, none⟩) (show w.heap.size < wr.heap.size by omega)).trans m0
        have n1 := (hbq.cell (p := ⟨w.heap.size, 1, none⟩) (show w.heap.size < wr.heap.size by omega)).trans m1
        have n2 := (hbq.cell (p := ⟨w.heap.size, 2, none⟩) (show w.heap.size < wr.heap.size by omega)).trans m2
        have HBQ := Lib.hid hbq
        have HB9 := Lib.hid (hb9.trans (hbq.mono hb9.size))
        clear hb hb9 hy hwq hzq hbq hhq m0 m1 m2 q1 ht r4
        obtain ⟨⟨G, ge⟩, hG⟩ : ∃ G, G = imgOf k l y := ⟨_, rfl⟩
        simp only [← hG] at cI E1 E2 E3
        clear hG
        by_cases tE : ge = 0
        · subst tE
          have e2 := Lib.hid (E2.out rfl)
          have e3 := E3.out rfl
          obtain ⟨n, hn⟩ : ∃ n : Nat, y.first - a = n := ⟨(y.first - a).toNat, by omega⟩
          have cB := Lib.hid (fun W => lblank_any n W (by omega))
          have hgs : (bs G).size = G.length := rfl
          have hfs := ffs_size (64 * n)
          have g9 : ∀ W, (Op.stringOp .add (ffs (64 * n)) (bs G)).run Tryz.prog W = .ok (.string (ffs (64 * n) ++ bs G)) W := fun W => run_string_add_sum _ _ _ (by rw [hgs, hfs]; omega)
          have HXL := Lib.hid (ffs_app (64 * n) G)
          have hxs : (ffs (64 * n) ++ bs G).size ≤ 2048 := by rw [ByteArray.size_append, hgs, hfs]; omega
          have HN := Lib.hid (show (64 * (y.first - a)).toNat = 64 * n by omega)
          have HGL := Lib.hid e3
          obtain ⟨X, hX⟩ : ∃ X, X = ffs (64 * n) ++ bs G := ⟨_, rfl⟩
          rw [← hX] at hxs
          simp only [← hX] at g9 HXL
          have cW := Lib.hid (fun W hW => WriteString_any 137 w1.heap.size holdsB pre X W hW (by omega))
          generalize ffs (64 * n) = F at *
          clear hgs hfs hX e3
          go_wp2_with (first
            | (go_at_call 88; (with_reducible refine (cI.out _ HB9.out).mono ?_); rintro e w5 ⟨rfl, hb5⟩
               have HB5 := Lib.hid hb5
               have z7 := (hb5.cell (p := ⟨wr.heap.size, 7, none⟩) hwz).trans y7
               have hz5 := hb5.size
               clear hb5)
            | (go_at_call 90; (with_reducible refine (cB.out _).mono ?_); rintro e w6 ⟨rfl, hb6⟩
               have HB6 := Lib.hid hb6
               have HW6 := Lib.hid (((HBL.out.below HBQ.out).below HB5.out).below hb6)
               have HH6 := Lib.hid ((hb6.block _ (by omega)).trans ((HB5.out.block _ hwz).trans HHQ.out))
               clear hb6 z7)
            | (go_at_call 89; (with_reducible refine (cW.out _ HW6.out).mono ?_); rintro e w7 ⟨⟨u, rfl⟩, hB7, hb7, hk7⟩
               have hh7 := hk7.heap HH6.out (by omega) (by decide)
               have c0 : w7.cell? ⟨wr.heap.size, 0, none⟩ = some (.string y.m.name) := by rw [Lib.cell_of_heap hh7]; rfl
               have c1 : w7.cell? ⟨wr.heap.size, 1, none⟩ = some (.int .i64 y.m.major) := by rw [Lib.cell_of_heap hh7]; rfl
               have c2 : w7.cell? ⟨wr.heap.size, 2, none⟩ = some (.int .i64 y.m.minor) := by rw [Lib.cell_of_heap hh7]; rfl
               have c3 : w7.cell? ⟨wr.heap.size, 3, none⟩ = some (.string y.m.text) := by rw [Lib.cell_of_heap hh7]; rfl
               have c4 : w7.cell? ⟨wr.heap.size, 4, none⟩ = some (.slice y.m.eA y.m.ex.length y.m.eC) := by rw [Lib.cell_of_heap hh7]; rfl
               have c5 : w7.cell? ⟨wr.heap.size, 5, none⟩ = some (.slice y.m.iA y.m.im.length y.m.iC) := by rw [Lib.cell_of_heap hh7]; rfl
               have c6 : w7.cell? ⟨wr.heap.size, 6, none⟩ = some (.slice y.m.pA y.m.pa.length y.m.pC) := by rw [Lib.cell_of_heap hh7]; rfl
               have c7 : w7.cell? ⟨wr.heap.size, 7, none⟩ = some (.int .i64 y.first) := by rw [Lib.cell_of_heap hh7]; rfl
               have HB7 := Lib.hid hb7
               have HW7 := Lib.hid hB7
               have hlt7 : wr.heap.size < w7.heap.size := (Array.getElem?_eq_some_iff.1 hh7).1
               clear hB7 hb7 hk7 hh7)
            | (go_at_call 91; (with_reducible refine (cE.out _).mono ?_); rintro e w8 ⟨rfl, hb8⟩))
          go_roundw
          case rel =>
            refine ⟨j + 1, endOf y, pre ++ X.data.toList, by omega, by go_num, rfl, by omega, hle, R4.out, ?_, HW7.out.below hb8, ?_, ?_⟩
            · rw [HXL.out, List.length_append, List.length_append, List.length_replicate]
              have := HPL2.out
              have := HGL.out
              omega
            · rw [HXL.out, ← HN.out]; exact e2.out
            · exact HB.out.trans ((HBQ.out.mono (by omega)).trans ((HB5.out.mono (by omega)).trans ((HB6.out.mono (by omega)).trans (HB7.out.trans (hb8.mono (by omega))))))
          case measure => (simp [intOf]; try omega)
        · have e1 := Lib.hid (E1.out tE)
          have tE' : (ge != 0) = true := by simp [tE]
          clear E2 E3 tE
          go_wp2_with (go_at_call 88; (with_reducible refine (cI.out _ HB9.out).mono ?_); rintro e w5 ⟨rfl, hb5⟩; have HB5 := Lib.hid hb5; clear hb5)
          go_ret2
          refine ⟨?_, HB9.out.trans (HB5.out.mono HB9.out.size)⟩
          have := e1.out.trans HTE.out
          obtain ⟨rfl, rfl⟩ := Prod.mk.inj this
          rfl
      · have e1 := Lib.hid ((area_end (k := k) (pre := pre) (a := a) hlt).symm.trans HR.out)
        obtain rfl : j = l.length := by omega
        obtain ⟨n, hn⟩ : ∃ n : Nat, 16 - a = n := ⟨(16 - a).toNat, by omega⟩
        have cB := Lib.hid (fun W => lblank_any n W (by omega))
        have cS := Lib.hid (fun W hW hs => Tryz.Builder_String_any w1.heap.size w1.heap.size pre W hW hs)
        have hgs : (bs pre).size = pre.length := rfl
        have hfs := ffs_size (64 * n)
        have g9 : ∀ W, (Op.stringOp .add (bs pre) (ffs (64 * n))).run Tryz.prog W = .ok (.string (bs pre ++ ffs (64 * n))) W := fun W => run_string_add_sum _ _ _ (by rw [hgs, hfs]; omega)
        have HX := Lib.hid (show bs pre ++ ffs (64 * n) = bs (pre ++ List.replicate (64 * n) 255) from ba_eq (by rw [ba_append]; rfl))
        have HN := Lib.hid (show (64 * (16 - a)).toNat = 64 * n by omega)
        generalize ffs (64 * n) = F at *
        clear hgs hfs hlt
        go_wp2_with (first
          | (go_at_call 92; (with_reducible refine (cS.out _ HBL.out (by omega)).mono ?_); rintro e w5 ⟨rfl, hb5⟩; have HB5 := Lib.hid hb5; clear hb5)
          | (go_at_call 90; (with_reducible refine (cB.out _).mono ?_); rintro e w6 ⟨rfl, hb6⟩))
        go_ret2
        refine ⟨?_, HB1.out.trans ((HB.out.trans (HB5.out.trans (hb6.mono (by have := HB5.out.size; omega)))).mono HB1.out.size)⟩
        have := e1.out.trans HTE.out
        rw [HN.out] at this
        obtain ⟨rfl, rfl⟩ := Prod.mk.inj this
        rw [← HX.out]
        rfl
  · rw [if_pos t1] at hT hE
    have t1' : (L != 0) = true := by simp [t1]
    have t1'' : (L == 0) = false := by simp [t1]
    subst hT hE
    clear t1
    go_enter Tryz.func24, Tryz.ntmps24
    go_wp2_with (go_at_call 86; (with_reducible refine (c1.out).mono ?_); rintro e w1 ⟨rfl, hb1⟩)
    go_ret2
    exact ⟨rfl, H0.out.trans (hb1.mono (by omega))⟩

end Go.Proofs.YtjiedaialianmaaGreat
end
