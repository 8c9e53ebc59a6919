import Derived.Test.YtjiedaialianmaaGreatG09
import Derived.Test.YtjiedaialianmaaGreatG08
import Derived.Deep.RegionWith
section

namespace Go.Proofs.YtjiedaialianmaaGreat
open Go.RowKit

theorem set4 {W : World} {b : Nat} {c0 c1 c2 c3 : Value} {t : TypeId} (h : W.heap[b]? = some (.cells #[c0, c1, c2, c3] t (0, 0))) (x0 x1 x2 x3 : Value) :
    ((((W.setCell ⟨b, 0, none⟩ x0).setCell ⟨b, 1, none⟩ x1).setCell ⟨b, 2, none⟩ x2).setCell ⟨b, 3, none⟩ x3).heap[b]? = some (.cells #[x0, x1, x2, x3] t (0, 0)) ∧ Only b W ((((W.setCell ⟨b, 0, none⟩ x0).setCell ⟨b, 1, none⟩ x1).setCell ⟨b, 2, none⟩ x2).setCell ⟨b, 3, none⟩ x3) := by
  have h1 : (W.setCell ⟨b, 0, none⟩ x0).heap[b]? = some (.cells #[x0, c1, c2, c3] t (0, 0)) := heap_setCell_same W b 0 _ _ x0 h
  have h2 : ((W.setCell ⟨b, 0, none⟩ x0).setCell ⟨b, 1, none⟩ x1).heap[b]? = some (.cells #[x0, x1, c2, c3] t (0, 0)) := heap_setCell_same (W.setCell ⟨b, 0, none⟩ x0) b 1 _ _ x1 h1
  have h3 : (((W.setCell ⟨b, 0, none⟩ x0).setCell ⟨b, 1, none⟩ x1).setCell ⟨b, 2, none⟩ x2).heap[b]? = some (.cells #[x0, x1, x2, c3] t (0, 0)) := heap_setCell_same ((W.setCell ⟨b, 0, none⟩ x0).setCell ⟨b, 1, none⟩ x1) b 2 _ _ x2 h2
  have h4 : ((((W.setCell ⟨b, 0, none⟩ x0).setCell ⟨b, 1, none⟩ x1).setCell ⟨b, 2, none⟩ x2).setCell ⟨b, 3, none⟩ x3).heap[b]? = some (.cells #[x0, x1, x2, x3] t (0, 0)) := heap_setCell_same (((W.setCell ⟨b, 0, none⟩ x0).setCell ⟨b, 1, none⟩ x1).setCell ⟨b, 2, none⟩ x2) b 3 _ _ x3 h3
  exact ⟨h4, ((((Only.set 0 x0).trans (Only.set 1 x1)).trans (Only.set 2 x2)).trans (Only.set 3 x3))⟩

end Go.Proofs.YtjiedaialianmaaGreat
end

section

namespace Go.Proofs.YtjiedaialianmaaGreat
open Go.RowKit Go.Lib

theorem Tryz.sizePlc : (Tryz.prog.info? 83).map (·.size) = some 8 := by kernel_rfl
def noMod : Mod := ⟨⟨#[]⟩, 0, 0, ⟨#[]⟩, [], [], [], none, 0, none, 0, none, 0⟩
theorem noMod_ok (W : World) : noMod.ok W := ⟨⟨Row.nil, Nat.zero_le _, by simp [noMod]⟩, ⟨Row.nil, Nat.zero_le _, by simp [noMod]⟩, ⟨Row.nil, Nat.zero_le _⟩, Nat.zero_le _, Nat.zero_le _⟩
theorem mod_small {m : Mod} (h : modErr m = 0) : m.ex.length ≤ 1000000 ∧ m.im.length ≤ 1000000 ∧ m.pa.length ≤ 1000000 := by
  have q := modErr_facts h
  exact ⟨Nat.le_trans q.2.2.2.2.2.1 (by omega), Nat.le_trans q.2.2.2.2.2.2.1 (by omega), Nat.le_trans q.2.2.2.2.2.2.2.1 (by omega)⟩
end Go.Proofs.YtjiedaialianmaaGreat
end

section

namespace Go.Proofs.YtjiedaialianmaaGreat
open Go.RowKit

/-- a block of a registry: two numbers, two slices -/
def RgBlock (W : World) (b : Nat) (t : TypeId) : Prop := ∃ (x y : Int) (A1 : Option Addr) (n1 c1 : Nat) (A2 : Option Addr) (n2 c2 : Nat), W.heap[b]? = some (.cells #[.int .i64 x, .int .i64 y, .slice A1 n1 c1, .slice A2 n2 c2] t (0, 0))
theorem rg_cell {W : World} {b : Nat} {t : TypeId} {p : Addr} (h : RgBlock W b t) (hp : p.block = b) {u : Value} (hu : W.cell? p = some u) : (p.off < 2 ∧ ∃ x, u = .int .i64 x) ∨ (2 ≤ p.off ∧ ∃ A n c, u = .slice A n c) := by
  obtain ⟨x, y, A1, n1, c1, A2, n2, c2, hb⟩ := h
  obtain ⟨pb, o, sp⟩ := p
  subst hp
  simp only [World.cell?, hb] at hu
  split at hu
  · cases hu
  · match o, hu with
    | 0, hu => simp at hu; exact .inl ⟨by simp, x, hu.symm⟩
    | 1, hu => simp at hu; exact .inl ⟨by simp, y, hu.symm⟩
    | 2, hu => simp at hu; exact .inr ⟨by simp, _, _, _, hu.symm⟩
    | 3, hu => simp at hu; exact .inr ⟨by simp, _, _, _, hu.symm⟩
    | o + 4, hu => simp at hu
theorem off_of_add (a : Addr) (n : Nat) : (a.add n).off = a.off + n := by
  unfold Addr.add; split
  · rename_i h; subst h; rfl
  · rfl
theorem Reads.other {W W' : World} {b k n : Nat} {t : TypeId} {A : Option Addr} {xs : List Value} (h : Reads W W.heap.size k A n xs) (hr : RgBlock W b t) (ho : Only b W W')
    (hs : 0 < n → (∃ s, xs[0]? = some (.string s)) ∨ ∃ x0 x2, xs[0]? = some (.int .i64 x0) ∧ xs[2]? = some (.int .i64 x2)) : Reads W' W'.heap.size k A n xs := by
  refine ⟨h.1, fun hn => ?_⟩
  obtain ⟨ad, e, hb, hc⟩ := h.2 hn
  have hne : ad.block ≠ b := fun hbb => by
    rcases hs hn with ⟨s, h0⟩ | ⟨x0, x2, h0, h2⟩
    · rcases rg_cell hr (by rw [block_of_add]; exact hbb) (hc 0 _ h0) with ⟨_, x, h⟩ | ⟨_, _, _, _, h⟩ <;> cases h
    · rcases rg_cell hr (by rw [block_of_add]; exact hbb) (hc 2 _ h2) with ⟨h, _⟩ | ⟨_, _, _, _, h⟩
      · rw [off_of_add] at h; omega
      · cases h
  exact ⟨ad, e, Nat.lt_of_lt_of_le hb ho.size, fun j u hu => by
    rw [← hc j u hu]
    exact World.cell?_of_block (by rw [block_of_add]; exact ho.block ad.block hb hne)⟩
section
variable {W W' : World} {b : Nat} {t : TypeId} (hr : RgBlock W b t) (ho : Only b W W')
include hr ho
theorem ExpsOk.other {A : Option Addr} {l : List Exp} (h : ExpsOk W A l) : ExpsOk W' A l := ⟨Reads.other h.1 hr ho (fun hn => by
  cases l with
  | nil => simp at hn
  | cons x r => exact .inl ⟨x.name, rfl⟩), h.2⟩
theorem ImpsOk.other {A : Option Addr} {l : List Imp} (h : ImpsOk W A l) : ImpsOk W' A l := ⟨Reads.other h.1 hr ho (fun hn => by
  cases l with
  | nil => simp at hn
  | cons x r => exact .inl ⟨x.mod, rfl⟩), h.2⟩
theorem PatsOk.other {A : Option Addr} {l : List Pat} (h : PatsOk W A l) : PatsOk W' A l := ⟨Reads.other h.1 hr ho (fun hn => by
  cases l with
  | nil => simp at hn
  | cons x r => exact .inr ⟨x.kind, x.sym, rfl, rfl⟩), h.2⟩
theorem Mod.ok.other {m : Mod} (h : m.ok W) : m.ok W' := ⟨ExpsOk.other hr ho h.ex, ImpsOk.other hr ho h.im, PatsOk.other hr ho h.pa, h.name, h.text⟩
theorem Krn.ok.other {k : Krn} (h : k.ok W) : k.ok W' := ⟨ExpsOk.other hr ho h.ex⟩
theorem PlsOk.other {A : Option Addr} {l : List Plc} (h : PlsOk W A l) : PlsOk W' A l := ⟨Reads.other h.row hr ho (fun hn => by
  cases l with
  | nil => simp at hn
  | cons x r => exact .inl ⟨x.m.name, rfl⟩), h.len, fun x hx => Mod.ok.other hr ho (h.each x hx)⟩
end

end Go.Proofs.YtjiedaialianmaaGreat
end

section

namespace Go.Proofs.YtjiedaialianmaaGreat
open Go.RowKit
open Gs (Tx)

theorem Tryz.sizeRg : (Tryz.prog.info? 39).map (·.size) = some 4 := by kernel_rfl
def noKrn : Krn := ⟨0, 0, [], none, 0⟩
theorem noKrn_ok (w : World) : noKrn.ok w := ⟨⟨Row.nil, Nat.zero_le _, by simp [noKrn]⟩⟩
section
variable (A : Option Addr) (c : Nat) (a1 a2 a3 b1 b2 b3 : Option Addr) (a4 a5 a6 b4 b5 b6 : Nat)
theorem rb_round : isRound (pairB a1 a2 a3 b1 b2 b3 a4 a5 a6 b4 b5 b6) = false := by kernel_rfl
theorem rb_rg : rgErr (kern A c) (pairB a1 a2 a3 b1 b2 b3 a4 a5 a6 b4 b5 b6) = 0 := by
  unfold rgErr
  rw [lb_link, rb_round]
  have h : (areaGo (kern A c) (pairB a1 a2 a3 b1 b2 b3 a4 a5 a6 b4 b5 b6) (pairB a1 a2 a3 b1 b2 b3 a4 a5 a6 b4 b5 b6) 0).2 = 0 := by kernel_rfl
  rw [h]; rfl
end

set_option maxHeartbeats 4000000 in
set_option maxRecDepth 100000 in
theorem reg_any (w : World) : Calls Tryz.prog 73 #[] w fun e w' => (∃ A1 c1 A2 c2 a1 a2 a3 a4 a5 a6 b1 b2 b3 b4 b5 b6, e = .returned (rgV (kern A1 c1) A2 (pairB a1 a2 a3 b1 b2 b3 a4 a5 a6 b4 b5 b6) c2) ∧ (kern A1 c1).ok w' ∧ PlsOk w' A2 (pairB a1 a2 a3 b1 b2 b3 a4 a5 a6 b4 b5 b6)) ∧ Below w.heap.size w w' := by
  obtain ⟨x0, hx0⟩ : ∃ x0, x0 = w.alloc (.cells #[.int .i64 0, .int .i64 0, .slice none 0 0, .slice none 0 0] 39) := ⟨_, rfl⟩
  have HR := Lib.hid (show x0.heap[w.heap.size]? = some (.cells #[.int .i64 0, .int .i64 0, .slice none 0 0, .slice none 0 0] 39 (0, 0)) by rw [hx0]; exact heap_alloc_new w _)
  have H0 := Lib.hid (show Below w.heap.size w x0 from hx0 ▸ (Below.refl _ _).alloc (Nat.le_refl _) _)
  have hx0' := hx0.symm
  clear hx0
  go_enter Tryz.func73, Tryz.ntmps73
  go_wp2_with fail
  refine (kernel_any _).mono ?_; rintro e w1 ⟨⟨A1, c1, rfl, hk1⟩, hb1⟩
  go_wp2_with fail
  refine (pair_any _).mono ?_; rintro e w2 ⟨⟨A2, c2, a1, a2, a3, a4, a5, a6, b1, b2, b3, b4, b5, b6, rfl, hl2⟩, hb2⟩
  have HK := Lib.hid (hk1.below hb2)
  have HL := Lib.hid hl2
  have HB := Lib.hid ((H0.out.trans (hb1.mono H0.out.size)).trans (hb2.mono (Nat.le_trans H0.out.size hb1.size)))
  have hR2 : w2.heap[w.heap.size]? = _ := (hb2.block _ (Nat.lt_of_lt_of_le (Array.getElem?_eq_some_iff.1 HR.out).1 hb1.size)).trans ((hb1.block _ (Array.getElem?_eq_some_iff.1 HR.out).1).trans HR.out)
  have HR2 := Lib.hid hR2
  have r0 := heap_cell hR2 0
  have r1 := heap_cell hR2 1
  have r2 := heap_cell hR2 2
  have r3 := heap_cell hR2 3
  have q0 := heap_free hR2 0
  have q1 := heap_free hR2 1
  have q2 := heap_free hR2 2
  have q3 := heap_free hR2 3
  simp only [List.getElem?_toArray, List.getElem?_cons_zero, List.getElem?_cons_succ] at r0 r1 r2 r3
  clear hk1 hl2 hb1 hb2 hR2
  go_wp2_with fail
  try simp only [Exit.inBlock, Exit.then]
  obtain ⟨hg, ho⟩ := set4 HR2.out (.int .i64 (kern A1 c1).major) (.int .i64 (kern A1 c1).minor) (.slice (kern A1 c1).eA (kern A1 c1).ex.length (kern A1 c1).eC) (.slice A2 2 c2)
  refine bodyPost_ret (results_cell_row rfl _ _ w.heap.size 39 _ (0, 0) _ rfl hg Tryz.underlying39 rfl Tryz.sizeRg) rfl ?_
  have hlt := (Array.getElem?_eq_some_iff.1 HR2.out).1
  refine ⟨⟨A1, c1, A2, c2, a1, a2, a3, a4, a5, a6, b1, b2, b3, b4, b5, b6, rfl, ?_, ?_⟩, HB.out.trans (ho.below (Nat.le_of_lt hlt))⟩
  · exact Krn.ok.other ⟨0, 0, none, 0, 0, none, 0, 0, HR2.out⟩ ho HK.out
  · exact PlsOk.other ⟨0, 0, none, 0, 0, none, 0, 0, HR2.out⟩ ho HL.out

end Go.Proofs.YtjiedaialianmaaGreat
end
