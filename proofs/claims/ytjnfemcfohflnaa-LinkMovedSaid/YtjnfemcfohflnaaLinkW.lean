import Derived.Test.YtjnfemcfohflnaaLinkPure
import Derived.Test.YtjnfemcfohflnaaRegW
import Derived.Test.YtjnfemcfohflnaaGrNamW
import Derived.Test.YtjnfemcfohflnaaAllW
/- Bytes as they lie (chapter G): link.Check, blank, the linker's base and patch. -/
namespace Go.Proofs.Ytjnfemcfohflnaa
open Go.RowKit
open Gs (Tx)

/-- so many bytes 255 -/
def ffs (n : Nat) : ByteArray := ⟨(List.replicate n 255).toArray⟩
theorem ffs_size (n : Nat) : (ffs n).size = n := by simp [ffs, ByteArray.size]
theorem repeat_ff : ∀ n, Lib.repeatL [255] n = List.replicate n 255
  | 0 => rfl
  | n + 1 => by rw [Lib.repeatL, repeat_ff n, List.replicate_succ]; rfl
set_option maxHeartbeats 1000000 in
set_option maxRecDepth 100000 in
theorem lblank_any (n : Nat) (w : World) (hn : n ≤ 16) : Calls Try.prog 11 #[.int .i64 n] w fun e w' => e = .returned (.string (ffs (64 * n))) ∧ Below w.heap.size w w' := by
  have cR := Lib.hid (fun W => Try.strings_Repeat ⟨#[255]⟩ (64 * n) W (by omega) (by show 1 * (64 * n) ≤ _; omega))
  have hb : (⟨(Lib.repeatL (⟨#[255]⟩ : ByteArray).data.toList (64 * n)).toArray⟩ : ByteArray) = ffs (64 * n) := by
    show (⟨(Lib.repeatL [255] (64 * n)).toArray⟩ : ByteArray) = _
    rw [repeat_ff]; rfl
  rw [hb] at cR
  have e1 : (((64 * n : Nat)) : Int) = (n : Int) * 64 := by omega
  rw [e1] at cR
  generalize ffs (64 * n) = B at *
  clear hb e1
  go_enter Try.func11, Try.ntmps11
  go_wp2_with (go_at_call 24; refine (cR.out _).mono ?_; rintro e w' ⟨rfl, hb⟩)
  go_ret
  exact ⟨rfl, hb⟩

set_option maxHeartbeats 2000000 in
set_option maxRecDepth 100000 in
theorem LCheck_any (k : Krn) (A : Option Addr) (c : Nat) (l : List Plc) (w : World) (hk : k.ok w) (h : PlsOk w A l) :
    Calls Try.prog 8 #[k.v, .slice A l.length c] w fun e w' => e = .returned (.int .i64 (linkErr k l)) ∧ Below w.heap.size w w' := by
  obtain ⟨w0, hw0⟩ : ∃ w0, w0 = w.alloc (.cells #[.int .i64 k.major, .int .i64 k.minor, .slice k.eA k.ex.length k.eC] 24) := ⟨_, rfl⟩
  obtain ⟨g0, g1, g2, hz, hb0⟩ := box3 hw0
  have H0 := Lib.hid hb0
  have hw0' := hw0.symm
  have c1 := Lib.hid (Kernel_any k w0 (hk.below hb0))
  have c2 := Lib.hid (fun W (hb : Below w.heap.size w W) => RCheck_any A c l W (h.below hb))
  have c3 := Lib.hid (fun (e : regErr l = 0) W (hb : Below w.heap.size w W) => Twice_any A c l W (h.row.below hb) (reg_row e).1)
  obtain ⟨E, hE⟩ : ∃ E, E = linkErr k l := ⟨_, rfl⟩
  rw [← hE]
  unfold linkErr at hE
  clear hw0 hb0 hk h
  generalize krnErr k = ke at *
  generalize regErr l = re at *
  generalize isTwice l = tw at *
  by_cases t1 : ke = 0
  · obtain rfl := t1
    rw [if_neg (by omega)] at hE
    by_cases t2 : re = 0
    · obtain rfl := t2
      rw [if_neg (by omega)] at hE
      have c4 := Lib.hid (c3.out rfl)
      cases tw
      · rw [if_neg (by simp)] at hE
        go_enter Try.func8, Try.ntmps8
        go_wp2_with (first | (go_at_call 17; (with_reducible refine (c1.out).mono ?_); rintro e w1 ⟨rfl, hb1⟩) | (go_at_call 18; (with_reducible refine (c2.out _ (H0.out.trans (hb1.mono (by omega)))).mono ?_); rintro e w2 ⟨rfl, hb2⟩) | (go_at_call 19; (with_reducible refine (c4.out _ ((H0.out.trans (hb1.mono (by omega))).trans (hb2.mono (by have := hb1.size; omega)))).mono ?_); rintro e w3 ⟨rfl, hb3⟩))
        go_ret
        exact ⟨ret_int hE.symm, ((H0.out.trans (hb1.mono (by omega))).trans (hb2.mono (by have := hb1.size; omega))).trans (hb3.mono (by have := hb1.size; have := hb2.size; omega))⟩
      · rw [if_pos rfl] at hE
        go_enter Try.func8, Try.ntmps8
        go_wp2_with (first | (go_at_call 17; (with_reducible refine (c1.out).mono ?_); rintro e w1 ⟨rfl, hb1⟩) | (go_at_call 18; (with_reducible refine (c2.out _ (H0.out.trans (hb1.mono (by omega)))).mono ?_); rintro e w2 ⟨rfl, hb2⟩) | (go_at_call 19; (with_reducible refine (c4.out _ ((H0.out.trans (hb1.mono (by omega))).trans (hb2.mono (by have := hb1.size; omega)))).mono ?_); rintro e w3 ⟨rfl, hb3⟩))
        go_ret
        exact ⟨ret_int hE.symm, ((H0.out.trans (hb1.mono (by omega))).trans (hb2.mono (by have := hb1.size; omega))).trans (hb3.mono (by have := hb1.size; have := hb2.size; omega))⟩
    · rw [if_pos t2] at hE
      have t2' : (re == 0) = false := by simp [t2]
      clear t2 c3
      go_enter Try.func8, Try.ntmps8
      go_wp2_with (first | (go_at_call 17; (with_reducible refine (c1.out).mono ?_); rintro e w1 ⟨rfl, hb1⟩) | (go_at_call 18; (with_reducible refine (c2.out _ (H0.out.trans (hb1.mono (by omega)))).mono ?_); rintro e w2 ⟨rfl, hb2⟩))
      go_ret
      exact ⟨ret_int hE.symm, (H0.out.trans (hb1.mono (by omega))).trans (hb2.mono (by have := hb1.size; omega))⟩
  · rw [if_pos t1] at hE
    have t1' : (ke == 0) = false := by simp [t1]
    clear t1 c2 c3
    go_enter Try.func8, Try.ntmps8
    go_wp2_with (first | (go_at_call 17; (with_reducible refine (c1.out).mono ?_); rintro e w1 ⟨rfl, hb1⟩))
    go_ret
    exact ⟨ret_int hE.symm, H0.out.trans (hb1.mono (by omega))⟩

/-- a linker that lies in block p: its module, its addresses, its bytes so far -/
def linkCells (x : Plc) (sA : Option Addr) (n sC : Nat) (s : ByteArray) : Array Value :=
  #[.string x.m.name, .int .i64 x.m.major, .int .i64 x.m.minor, .string x.m.text, .slice x.m.eA x.m.ex.length x.m.eC, .slice x.m.iA x.m.im.length x.m.iC, .slice x.m.pA x.m.pa.length x.m.pC, .int .i64 x.first, .slice sA n sC, .string s]
def Lk (w : World) (p : Nat) (x : Plc) (sA : Option Addr) (n sC : Nat) (s : ByteArray) : Prop := w.heap[p]? = some (.cells (linkCells x sA n sC s) 66 (0, 0))
section
variable {w w' : World} {p : Nat} {x : Plc} {sA : Option Addr} {n sC : Nat} {s : ByteArray}
theorem Lk.cell (h : Lk w p x sA n sC s) (i : Nat) : w.cell? ⟨p, i, none⟩ = (linkCells x sA n sC s)[i]? := cell_of_row _ _ _ _ _ _ h
theorem Lk.lt (h : Lk w p x sA n sC s) : p < w.heap.size := by
  rcases Nat.lt_or_ge p w.heap.size with h' | h'
  · exact h'
  · unfold Lk at h; rw [Array.getElem?_eq_none h'] at h; cases h
theorem Lk.frozen (h : Lk w p x sA n sC s) (i : Nat) : w.frozen? ⟨p, i, none⟩ = false := frozen_of_row _ _ _ _ _ h
theorem Lk.kept (h : Lk w p x sA n sC s) (hb : Below w.heap.size w w') : Lk w' p x sA n sC s := (hb.block p h.lt).trans h
theorem Lk.put (h : Lk w p x sA n sC s) (t : ByteArray) : Lk (w.setCell ⟨p, 9, none⟩ (.string t)) p x sA n sC t := heap_setCell_same w p 9 _ _ _ h
end

set_option maxHeartbeats 1000000 in
set_option maxRecDepth 100000 in
theorem base_any (x : Plc) (p : Nat) (w : World) (h : w.cell? ⟨p, 7, none⟩ = some (.int .i64 x.first)) (h0 : 0 ≤ x.first) (h1 : x.first ≤ 16) :
    Calls Try.prog 36 #[.pointer (some ⟨p, 0, none⟩)] w fun e w' => e = .returned (.int .i64 (baseOf x)) ∧ w = w' := by
  have q1 : IntKind.i64.wrap (x.first * 64) = x.first * 64 := IntWalk.i64_in _ (by omega)
  have q2 : IntKind.i64.wrap (4096 + x.first * 64) = 4096 + x.first * 64 := IntWalk.i64_in _ (by omega)
  have e1 := Lib.hid (show 4096 + x.first * 64 = baseOf x by unfold baseOf; omega)
  go_enter Try.func36, Try.ntmps36
  go_wp2_with fail
  go_ret
  exact ⟨ret_int e1.out, rfl⟩

end Go.Proofs.Ytjnfemcfohflnaa
