import Derived.Test.YtjnfemcfohflnaaFindW
import Derived.Test.YtjnfemcfohflnaaGrMem
import Derived.Test.YtjnfemcfohflnaaSortW
/- Names of modules (chapter E): graph.names, Twice, ready, direct. -/
namespace Go.Proofs.Ytjnfemcfohflnaa
open Go.RowKit Go.Sort
open Gs (Tx)

theorem txs_take {l : List Plc} {j : Nat} (h : j < l.length) : txs (l.take (j + 1)) = txs (l.take j) ++ [tx l[j].m.name] := by
  unfold txs; rw [List.take_succ_eq_append_getElem h, List.map_append]; rfl
theorem msort_length (l : List Tx) : (Gs.msort l).length = l.length := (Gs.msort_perm l).length_eq

set_option maxHeartbeats 4000000 in
set_option maxRecDepth 100000 in
theorem names_any (A : Option Addr) (c : Nat) (l : List Plc) (w : World) (h : Row Plc.cells 8 w A l) (h8 : l.length ≤ 8) :
    Calls Try.prog 34 #[.slice A l.length c] w fun e w' => (∃ v, e = .returned v ∧ TR w' w.heap.size v (Gs.msort (txs l))) ∧ Below w.heap.size w w' := by
  have HP := Lib.hid h
  clear h
  go_enter Try.func34, Try.ntmps34
  go_wp2_with fail
  go_loopw [3, 8] (fun v i wr => ∃ j : Nat, j ≤ l.length ∧ i = .int .i64 j ∧ TR wr w.heap.size v (txs (l.take j)) ∧ Below w.heap.size w wr) (fun _ i _ => l.length - (intOf i).toNat)
  case atStart => exact ⟨0, by omega, rfl, TR.nil _ _, Below.refl _ _⟩
  case round =>
    obtain ⟨j, hj, rfl, ht, hb⟩ := hrel
    have HT := Lib.hid ht
    have HB := Lib.hid hb
    clear ht
    have hwz := hb.size
    by_cases hlt : j < l.length
    · have hlt' : (j : Int) < l.length := by omega
      obtain ⟨ad, rfl, hab, h0, h1, h2, h3, h4, h5, h6, h7⟩ := plc_at HP.out hb j hlt
      have e1 := Lib.hid (txs_take hlt)
      have HL := Lib.hid (show (txs (l.take j)).length ≤ 8 by rw [txs_length, List.length_take]; omega)
      obtain ⟨y, hy⟩ : ∃ y, y = l[j]'hlt := ⟨_, rfl⟩
      rw [← hy] at h0 h1 h2 h3 h4 h5 h6 h7 e1
      obtain ⟨wx, hwx⟩ : ∃ wx, wx = wr.alloc (.cells #[.string y.m.name, .int .i64 y.m.major, .int .i64 y.m.minor, .string y.m.text, .slice y.m.eA y.m.ex.length y.m.eC, .slice y.m.iA y.m.im.length y.m.iC, .slice y.m.pA y.m.pa.length y.m.pC, .int .i64 y.first] 36) := ⟨_, rfl⟩
      obtain ⟨x0, x1, x2, x3, x4, x5, x6, x7, hzx, hbx⟩ := box8 hwx
      have hwx' := hwx.symm
      have hzy : wr.heap.size < wx.heap.size := by omega
      have HTX := Lib.hid (show TR wx w.heap.size _ (txs (l.take j)) from hwx ▸ HT.out.alloc _)
      have HBX := Lib.hid (hb.trans (hbx.mono hwz))
      have HZX := Lib.hid (show w.heap.size ≤ wx.heap.size by omega)
      clear hb hwx hbx hy hzx
      go_wp2_with (at_builtin; refine append_tr wx rfl _ _ rfl w.heap.size _ (txs (l.take j)) y.m.name rfl rfl (by exact HTX.out) (by have := HL.out; omega) HZX.out ?_; intro v' w4 ht4 hb4)
      go_roundw
      case rel => exact ⟨j + 1, by omega, by go_num, by rw [e1.out]; exact ht4, HBX.out.trans hb4⟩
      case measure => (simp [intOf]; try omega)
    · obtain rfl : j = l.length := by omega
      have HT2 := Lib.hid (show TR wr w.heap.size _ (txs l) by have := HT.out; rwa [List.take_length] at this)
      have HL := Lib.hid (show (txs l).length ≤ big by rw [txs_length]; unfold big; omega)
      clear hb
      go_wp2_with (go_at_call 46; refine (Sort_any HT2.out.own HL.out).mono ?_; rintro e w2 ⟨rfl, ht2, hg2⟩; have HT3 := Lib.hid ht2; have HG := Lib.hid hg2; clear ht2 hg2)
      go_ret
      exact ⟨⟨_, rfl, TR.of_own HT3.out⟩, HB.out.grown HG.out hwz (fun g hg => (HT2.out.lt g hg).1)⟩

set_option maxHeartbeats 1000000 in
set_option maxRecDepth 100000 in
theorem Twice_any (A : Option Addr) (c : Nat) (l : List Plc) (w : World) (h : Row Plc.cells 8 w A l) (h8 : l.length ≤ 8) :
    Calls Try.prog 19 #[.slice A l.length c] w fun e w' => e = .returned (.bool (isTwice l)) ∧ Below w.heap.size w w' := by
  have c1 := Lib.hid (names_any A c l w h h8)
  have e1 := Lib.hid (show isTwice l = decide ((Lib.compact (Gs.msort (txs l))).length < l.length) from rfl)
  generalize Gs.msort (txs l) = T at *
  generalize isTwice l = b at *
  clear h
  go_enter Try.func19, Try.ntmps19
  go_wp2_with (first
    | (go_at_call 34; refine (c1.out).mono ?_; rintro e w2 ⟨⟨v, rfl, ht2⟩, hb2⟩; have HT := Lib.hid ht2; have HB := Lib.hid hb2; clear ht2 hb2)
    | (go_at_call 33; refine (Compact_any HT.out.own).mono ?_; rintro e w3 ⟨⟨A3, c3, rfl⟩, hg3⟩; have HG := Lib.hid hg3; clear hg3))
  go_ret
  exact ⟨ret_bool (by rw [e1.out]), HB.out.grown HG.out HB.out.size (fun g hg => (HT.out.lt g hg).1)⟩


end Go.Proofs.Ytjnfemcfohflnaa
