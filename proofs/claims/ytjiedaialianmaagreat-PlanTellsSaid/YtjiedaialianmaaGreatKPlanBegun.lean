import Derived.Test.YtjiedaialianmaaGreatG17
import Derived.Test.YtjiedaialianmaaGreatG15
import Derived.Test.YtjiedaialianmaaGreatG11

namespace Go.Proofs.YtjiedaialianmaaGreat
open Go.RowKit Go.Lib

def extraM : Mod := ⟨⟨#[101, 120, 116, 114, 97]⟩, 0, 0, ⟨#[49, 50, 51, 52]⟩, [], [], [], none, 0, none, 0, none, 0⟩
def lib9 (b1 b2 b3 : Option Addr) (b4 b5 b6 : Nat) : Mod := { libM b1 b2 b3 b4 b5 b6 with minor := 9 }
theorem extraM_ok (w : World) : extraM.ok w := ⟨⟨Row.nil, Nat.zero_le _, by simp [extraM]⟩, ⟨Row.nil, Nat.zero_le _, by simp [extraM]⟩, ⟨Row.nil, Nat.zero_le _⟩, by unfold big extraM; decide, by unfold big extraM; decide⟩
theorem twice_of {l : List Plc} (h : (txs l).Nodup) : isTwice l = false := by
  cases h' : isTwice l
  · rfl
  · exact absurd h ((twice_nodup l).1 h')
theorem rg_zero {k : Krn} {l : List Plc} (h1 : krnErr k = 0) (h2 : regErr l = 0) (h3 : isTwice l = false) (h4 : isRound l = false) (h5 : (areaGo k l l 0).2 = 0) : rgErr k l = 0 := by
  unfold rgErr linkErr
  rw [h1, h2, h3, h4, h5]; rfl
theorem cm_of {k : Krn} {c : Cm} {l L : List Plc} (h0 : rgErr k l = 0) (h1 : cmPre c l = 0) (h2 : cmL c l = L) (h3 : rgErr k L = 0) : planErr k c l = 0 ∧ cmL c l = L := by
  refine ⟨?_, h2⟩
  unfold planErr
  rw [if_neg (by omega)]
  unfold cmErr
  rw [if_neg (by omega), h2]; exact h3
section
variable (A : Option Addr) (c : Nat) (a1 a2 a3 b1 b2 b3 d1 d2 d3 : Option Addr) (a4 a5 a6 b4 b5 b6 d4 d5 d6 : Nat)
theorem pb_inst : planErr (kern A c) ⟨1, extraM, ⟨#[]⟩⟩ (pairB a1 a2 a3 b1 b2 b3 a4 a5 a6 b4 b5 b6) = 0 ∧ cmL ⟨1, extraM, ⟨#[]⟩⟩ (pairB a1 a2 a3 b1 b2 b3 a4 a5 a6 b4 b5 b6) = [⟨extraM, 0⟩, ⟨appM a1 a2 a3 a4 a5 a6, 1⟩, ⟨libM b1 b2 b3 b4 b5 b6, 4⟩] :=
  cm_of (rb_rg ..) (by kernel_rfl) (by kernel_rfl) (rg_zero (by kernel_rfl) (by kernel_rfl) (twice_of (of_decide_eq_true (by kernel_rfl))) (by kernel_rfl) (by kernel_rfl))
theorem pb_app : planErr (kern A c) ⟨2, noMod, ⟨#[97, 112, 112]⟩⟩ (pairB a1 a2 a3 b1 b2 b3 a4 a5 a6 b4 b5 b6) = 0 ∧ cmL ⟨2, noMod, ⟨#[97, 112, 112]⟩⟩ (pairB a1 a2 a3 b1 b2 b3 a4 a5 a6 b4 b5 b6) = [⟨libM b1 b2 b3 b4 b5 b6, 4⟩] :=
  cm_of (rb_rg ..) (by kernel_rfl) (by kernel_rfl) (rg_zero (by kernel_rfl) (by kernel_rfl) (twice_of (of_decide_eq_true (by kernel_rfl))) (by kernel_rfl) (by kernel_rfl))
theorem pb_lib : planErr (kern A c) ⟨2, noMod, ⟨#[108, 105, 98]⟩⟩ (pairB a1 a2 a3 b1 b2 b3 a4 a5 a6 b4 b5 b6) = 4 := by
  unfold planErr
  rw [if_neg (by rw [rb_rg]; simp)]
  have h : cmPre ⟨2, noMod, ⟨#[108, 105, 98]⟩⟩ (pairB a1 a2 a3 b1 b2 b3 a4 a5 a6 b4 b5 b6) = 4 := by kernel_rfl
  unfold cmErr
  rw [h]; rfl
theorem pb_upg : planErr (kern A c) ⟨3, lib9 d1 d2 d3 d4 d5 d6, ⟨#[]⟩⟩ (pairB a1 a2 a3 b1 b2 b3 a4 a5 a6 b4 b5 b6) = 0 ∧ cmL ⟨3, lib9 d1 d2 d3 d4 d5 d6, ⟨#[]⟩⟩ (pairB a1 a2 a3 b1 b2 b3 a4 a5 a6 b4 b5 b6) = [⟨appM a1 a2 a3 a4 a5 a6, 1⟩, ⟨lib9 d1 d2 d3 d4 d5 d6, 4⟩] :=
  cm_of (rb_rg ..) (by kernel_rfl) (by kernel_rfl) (rg_zero (by kernel_rfl) (by kernel_rfl) (twice_of (of_decide_eq_true (by kernel_rfl))) (by kernel_rfl) (by kernel_rfl))
end
set_option maxRecDepth 100000 in
theorem extra_any (w : World) : Calls Tryz.prog 111 #[] w fun e w' => e = .returned extraM.v ∧ Below w.heap.size w w' := by
  obtain ⟨x0, hx0⟩ : ∃ x0, x0 = w.alloc (.cells #[.string ⟨#[]⟩, .int .i64 0, .int .i64 0, .string ⟨#[]⟩, .slice none 0 0, .slice none 0 0, .slice none 0 0] 70) := ⟨_, rfl⟩
  have h0 : ∀ cs, (w.alloc (.cells cs 70)).heap[w.heap.size]? = some (.cells cs 70 (0, 0)) := fun cs => heap_alloc_new w _
  go_enter Tryz.func111, Tryz.ntmps111
  go_wp2_with fail
  try simp only [Exit.inBlock, Exit.then]
  refine bodyPost_ret (results_cell_row rfl _ _ w.heap.size 70 _ (0, 0) _ rfl (h0 _) Tryz.underlying70 rfl Tryz.sizeModule) rfl ?_
  exact ⟨rfl, (Below.refl _ _).alloc (Nat.le_refl _) _⟩

theorem first_of {l L : List Plc} {j : Nat} (h : bares l = bares L) (hj : j < l.length) (hj' : j < L.length) : l[j].first = L[j].first ∧ l[j].m.bare = L[j].m.bare := by
  have e : (bares l)[j]'(by simpa using hj) = (bares L)[j]'(by simpa using hj') := by simp only [h]
  simp only [List.getElem_map] at e
  exact ⟨by have := congrArg Plc.first e; exact this, congrArg Plc.m e⟩

/-- behind the last call of planBegun -/
def UpgCut (w : World) (m9 : Mod) (p e : Value) (wx : World) : Prop := ∃ (b : Nat) (k : Krn) (A : Option Addr) (x y : Plc) (c : Nat), p = .pointer (some ⟨b, 0, none⟩) ∧ e = .int .i64 0 ∧
  wx.heap[b]? = some (.cells #[.int .i64 k.major, .int .i64 k.minor, .slice k.eA k.ex.length k.eC, .slice A 2 c] 39 (0, 0)) ∧ Row Plc.cells 8 wx A [x, y] ∧ y.first = 4 ∧ y.m.minor = m9.minor ∧ Below w.heap.size w wx

theorem UpgCut.new {w w14 : World} {m9 : Mod} {k : Krn} {A : Option Addr} {x y : Plc} {c : Nat} (hb : Below w.heap.size w w14) (hq : Row Plc.cells 8 w14 A [x, y] ∧ y.first = 4 ∧ y.m.minor = m9.minor) :
    UpgCut w m9 (.pointer (some ⟨w14.heap.size, 0, none⟩)) (.int .i64 0) (w14.alloc (.cells #[.int .i64 k.major, .int .i64 k.minor, .slice k.eA k.ex.length k.eC, .slice A 2 c] 39)) :=
  have ha : Below w14.heap.size w14 (w14.alloc (.cells #[.int .i64 k.major, .int .i64 k.minor, .slice k.eA k.ex.length k.eC, .slice A 2 c] 39)) := (Below.refl _ _).alloc (Nat.le_refl _) _
  ⟨_, k, A, x, y, c, rfl, rfl, heap_alloc_new w14 _, hq.1.below ha, hq.2.1, hq.2.2, hb.trans (ha.mono hb.size)⟩
theorem UpgCut.old {w w14 : World} {m9 : Mod} {k : Krn} {A : Option Addr} {x y : Plc} {c b : Nat} (hb : Below w.heap.size w w14) (hz : w14.heap[b]? = some (.cells #[.int .i64 0, .int .i64 0, .slice none 0 0, .slice none 0 0] 39 (0, 0))) (hle : w.heap.size ≤ b) (hq : Row Plc.cells 8 w14 A [x, y] ∧ y.first = 4 ∧ y.m.minor = m9.minor) :
    UpgCut w m9 (.pointer (some ⟨b, 0, none⟩)) (.int .i64 0) ((((w14.setCell ⟨b, 0, none⟩ (.int .i64 k.major)).setCell ⟨b, 1, none⟩ (.int .i64 k.minor)).setCell ⟨b, 2, none⟩ (.slice k.eA k.ex.length k.eC)).setCell ⟨b, 3, none⟩ (.slice A 2 c)) := by
  obtain ⟨hg, ho⟩ := set4 hz (.int .i64 k.major) (.int .i64 k.minor) (.slice k.eA k.ex.length k.eC) (.slice A 2 c)
  exact ⟨_, k, A, x, y, c, rfl, rfl, hg, Reads.other hq.1 ⟨_, _, _, _, _, _, _, _, hz⟩ ho (fun _ => .inl ⟨x.m.name, rfl⟩), hq.2.1, hq.2.2, hb.trans ((ho.below (Nat.le_of_lt (Array.getElem?_eq_some_iff.1 hz).1)).mono hle)⟩
theorem zero_kept (w : World) : ∀ W' : World, Below (w.alloc (.cells #[.int .i64 0, .int .i64 0, .slice none 0 0, .slice none 0 0] 39)).heap.size (w.alloc (.cells #[.int .i64 0, .int .i64 0, .slice none 0 0, .slice none 0 0] 39)) W' → W'.heap[w.heap.size]? = some (.cells #[.int .i64 0, .int .i64 0, .slice none 0 0, .slice none 0 0] 39 (0, 0)) :=
  fun W' hb => (hb.block w.heap.size (by show w.heap.size < (w.alloc _).heap.size; simp)).trans (heap_alloc_new w _)
theorem upg_call {w12 w13 : World} {m9 : Mod} {k : Krn} {A : Option Addr} {l : List Plc} {x0 : Plc} {c : Nat} (hb : Below w12.heap.size w12 w13) (hk : k.ok w13) (hl : PlsOk w13 A l) (hm : m9.ok w12) (hp : planErr k ⟨3, m9, ⟨#[]⟩⟩ l = 0 ∧ cmL ⟨3, m9, ⟨#[]⟩⟩ l = [x0, ⟨m9, 4⟩]) :
    ∀ W, Below w13.heap.size w13 W → Calls Tryz.prog 37 #[rgV k A l c, m9.v] W fun e w' => (∃ k' A' x y c', e = .returned (.tuple #[rgV k' A' [x, y] c', .int .i64 0]) ∧ Row Plc.cells 8 w' A' [x, y] ∧ y.first = 4 ∧ y.m.minor = m9.minor) ∧ Below W.heap.size W w' ∧ Below w13.heap.size w13 w' := fun W hW => by
  have h := PUpgrade_any k A c l m9 W (hk.below hW) (hl.below hW) (hm.below (hb.trans (hW.mono hb.size)))
  rw [hp.1, hp.2] at h
  refine h.mono ?_
  rintro e w' ⟨⟨k', A', l', c', rfl, hrg⟩, hb'⟩
  have hm : bares l' = bares [x0, ⟨m9, 4⟩] := hrg.mods
  have hn : l'.length = 2 := by have := len_like hm; simpa using this
  obtain ⟨x, y, rfl⟩ : ∃ x y, l' = [x, y] := by
    match l', hn with | [x, y], _ => exact ⟨x, y, rfl⟩
  have h1 := first_of hm (j := 1) (by simp) (by simp)
  refine ⟨⟨k', A', x, y, c', rfl, Reads.of_own hrg.own.mods.row, h1.1, ?_⟩, hb', hW.trans (hb'.mono hW.size)⟩
  have h2 := congrArg Mod.minor h1.2
  exact h2

set_option maxHeartbeats 4000000 in
set_option maxRecDepth 100000 in
theorem planBegun_any (w : World) : Calls Tryz.prog 42 #[] w fun e w' => e = .returned (.bool true) ∧ Below w.heap.size w w' := by
  go_enter Tryz.func42, Tryz.ntmps42
  go_wp2_with fail
  refine (reg_any _).mono ?_; rintro e w1 ⟨⟨A1, c1, A2, c2, a1, a2, a3, a4, a5, a6, b1, b2, b3, b4, b5, b6, rfl, hk1, hl1⟩, hb1⟩
  have HB1 := Lib.hid hb1
  have HT1 := Lib.hid (show RgThere w1 (kern A1 c1) A2 (pairB a1 a2 a3 b1 b2 b3 a4 a5 a6 b4 b5 b6) from ⟨hk1, hl1⟩)
  clear hk1 hl1 hb1
  go_wp2_with fail
  refine (extra_any _).mono ?_; rintro e w2 ⟨rfl, hb2⟩
  have HB2 := Lib.hid (HB1.out.trans (hb2.mono HB1.out.size))
  have HT2 := HT1.out.below hb2
  have f2 := Lib.hid (PInstall_any (kern A1 c1) A2 c2 (pairB a1 a2 a3 b1 b2 b3 a4 a5 a6 b4 b5 b6) extraM w2 HT2.1 HT2.2 (extraM_ok _))
  rw [(pb_inst A1 c1 a1 a2 a3 b1 b2 b3 a4 a5 a6 b4 b5 b6).1, (pb_inst A1 c1 a1 a2 a3 b1 b2 b3 a4 a5 a6 b4 b5 b6).2] at f2
  clear hb2 HT1 HT2 HB1
  go_wp2_with fail
  refine (f2.out).mono ?_; rintro e w3 ⟨⟨k3, A3, l3, c3, rfl, hrg3⟩, hb3⟩
  have hm3 : bares l3 = bares [⟨extraM, 0⟩, ⟨appM a1 a2 a3 a4 a5 a6, 1⟩, ⟨libM b1 b2 b3 b4 b5 b6, 4⟩] := hrg3.mods
  have hn3 : l3.length = 3 := by have := len_like hm3; simpa using this
  obtain ⟨x3, y3, z3, rfl⟩ : ∃ x y z, l3 = [x, y, z] := by
    match l3, hn3 with | [x, y, z], _ => exact ⟨x, y, z, rfl⟩
  have HM3 := Lib.hid (show x3.m.name = ⟨#[101, 120, 116, 114, 97]⟩ from by have := (first_of hm3 (j := 0) (by simp) (by simp)).2; exact congrArg Mod.name this)
  have HB3 := Lib.hid (HB2.out.trans (hb3.mono HB2.out.size))
  have HV3 := Lib.hid (show Row Plc.cells 8 w3 A3 [x3, y3, z3] from Reads.of_own hrg3.own.mods.row)
  obtain ⟨w4, hw4⟩ : ∃ w4, w4 = w3.alloc (.cells #[.int .i64 k3.major, .int .i64 k3.minor, .slice k3.eA k3.ex.length k3.eC, .slice A3 3 c3] 39) := ⟨_, rfl⟩
  have hb4 : Below w3.heap.size w3 w4 := hw4 ▸ (Below.refl _ _).alloc (Nat.le_refl _) _
  have HB4 := Lib.hid (HB3.out.trans (hb4.mono HB3.out.size))
  have HV4 := Lib.hid (HV3.out.below hb4)
  have HA4 := Lib.hid (show w4.heap[w3.heap.size]? = some (.cells #[.int .i64 k3.major, .int .i64 k3.minor, .slice k3.eA k3.ex.length k3.eC, .slice A3 3 c3] 39 (0, 0)) by rw [hw4]; exact heap_alloc_new w3 _)
  have HSZ4 := Lib.hid (show w4.heap.size = w3.heap.size + 1 by rw [hw4]; simp)
  have hw4' := hw4.symm
  clear hw4 hb4
  clear hrg3 hm3 hn3 hb3 f2
  go_wp2_with fail
  refine (reg_any _).mono ?_; rintro e w5 ⟨⟨A5, c5, A6, c6, d1, d2, d3, d4, d5, d6, e1, e2, e3, e4, e5, e6, rfl, hk5, hl5⟩, hb5⟩
  have HB5 := Lib.hid (HB4.out.trans (hb5.mono HB4.out.size))
  have HV5 := Lib.hid (HV4.out.below hb5)
  have HA5 := Lib.hid (blk' hb5 HA4.out)
  have f5 := Lib.hid (PRemove_any (kern A5 c5) A6 c6 (pairB d1 d2 d3 e1 e2 e3 d4 d5 d6 e4 e5 e6) ⟨#[97, 112, 112]⟩ w5 hk5 hl5)
  rw [(pb_app A5 c5 d1 d2 d3 e1 e2 e3 d4 d5 d6 e4 e5 e6).1, (pb_app A5 c5 d1 d2 d3 e1 e2 e3 d4 d5 d6 e4 e5 e6).2] at f5
  clear hk5 hl5 hb5
  go_wp2_with fail
  refine (f5.out).mono ?_; rintro e w6 ⟨⟨k6, A7, l6, c7, rfl, hrg6⟩, hb6⟩
  have hn6 : l6.length = 1 := by have := len_like (show bares l6 = bares [⟨libM e1 e2 e3 e4 e5 e6, 4⟩] from hrg6.mods); simpa using this
  obtain ⟨x6, rfl⟩ : ∃ x, l6 = [x] := by
    match l6, hn6 with | [x], _ => exact ⟨x, rfl⟩
  have HB6 := Lib.hid (HB5.out.trans (hb6.mono HB5.out.size))
  have HV6 := Lib.hid (HV5.out.below hb6)
  have HA6 := Lib.hid (blk' hb6 HA5.out)
  obtain ⟨w7, hw7⟩ : ∃ w7, w7 = w6.alloc (.cells #[.int .i64 k6.major, .int .i64 k6.minor, .slice k6.eA k6.ex.length k6.eC, .slice A7 1 c7] 39) := ⟨_, rfl⟩
  have hb7 : Below w6.heap.size w6 w7 := hw7 ▸ (Below.refl _ _).alloc (Nat.le_refl _) _
  have hneAD := Lib.hid (Nat.ne_of_lt (Array.getElem?_eq_some_iff.1 HA6.out).1)
  have HB7 := Lib.hid (HB6.out.trans (hb7.mono HB6.out.size))
  have HV7 := Lib.hid (HV6.out.below hb7)
  have HA7 := Lib.hid (blk' hb7 HA6.out)
  have HD7 := Lib.hid (show w7.heap[w6.heap.size]? = some (.cells #[.int .i64 k6.major, .int .i64 k6.minor, .slice k6.eA k6.ex.length k6.eC, .slice A7 1 c7] 39 (0, 0)) by rw [hw7]; exact heap_alloc_new w6 _)
  have HSZ7 := Lib.hid (show w7.heap.size = w6.heap.size + 1 by rw [hw7]; simp)
  have hw7' := hw7.symm
  clear hw7 hb7
  clear hrg6 hn6 hb6 f5
  go_wp2_with fail
  refine (reg_any _).mono ?_; rintro e w8 ⟨⟨A8, c8, A9, c9, g1, g2, g3, g4, g5, g6, h1, h2, h3, h4, h5, h6, rfl, hk8, hl8⟩, hb8⟩
  have HB8 := Lib.hid (HB7.out.trans (hb8.mono HB7.out.size))
  have HV8 := Lib.hid (HV7.out.below hb8)
  have HA8 := Lib.hid (blk' hb8 HA7.out)
  have HD8 := Lib.hid (blk' hb8 HD7.out)
  have f8 := Lib.hid (PRemove_any (kern A8 c8) A9 c9 (pairB g1 g2 g3 h1 h2 h3 g4 g5 g6 h4 h5 h6) ⟨#[108, 105, 98]⟩ w8 hk8 hl8)
  rw [pb_lib A8 c8 g1 g2 g3 h1 h2 h3 g4 g5 g6 h4 h5 h6] at f8
  clear hk8 hl8 hb8
  go_wp2_with fail
  refine (f8.out).mono ?_; rintro e w9 ⟨⟨k9, A10, l9, c10, rfl, hrg9⟩, hb9⟩
  have HB9 := Lib.hid (HB8.out.trans (hb9.mono HB8.out.size))
  have HV9 := Lib.hid (HV8.out.below hb9)
  have HA9 := Lib.hid (blk' hb9 HA8.out)
  have HD9 := Lib.hid (blk' hb9 HD8.out)
  obtain ⟨w10, hw10⟩ : ∃ w10, w10 = w9.alloc (.cells #[.int .i64 k9.major, .int .i64 k9.minor, .slice k9.eA k9.ex.length k9.eC, .slice A10 l9.length c10] 39) := ⟨_, rfl⟩
  have hb10 : Below w9.heap.size w9 w10 := hw10 ▸ (Below.refl _ _).alloc (Nat.le_refl _) _
  have hneAE := Lib.hid (Nat.ne_of_lt (Array.getElem?_eq_some_iff.1 HA9.out).1)
  have hneDE := Lib.hid (Nat.ne_of_lt (Array.getElem?_eq_some_iff.1 HD9.out).1)
  have HB10 := Lib.hid (HB9.out.trans (hb10.mono HB9.out.size))
  have HV10 := Lib.hid (HV9.out.below hb10)
  have HA10 := Lib.hid (blk' hb10 HA9.out)
  have HD10 := Lib.hid (blk' hb10 HD9.out)
  have HE10 := Lib.hid (show w10.heap[w9.heap.size]? = some (.cells #[.int .i64 k9.major, .int .i64 k9.minor, .slice k9.eA k9.ex.length k9.eC, .slice A10 l9.length c10] 39 (0, 0)) by rw [hw10]; exact heap_alloc_new w9 _)
  have HSZ10 := Lib.hid (show w10.heap.size = w9.heap.size + 1 by rw [hw10]; simp)
  have hw10' := hw10.symm
  clear hw10 hb10
  clear hrg9 hb9 f8
  go_wp2_with fail
  refine (lib_any _).mono ?_; rintro e w11 ⟨⟨q1, q2, q3, q4, q5, q6, rfl, hm11⟩, hb11⟩
  have HB11 := Lib.hid (HB10.out.trans (hb11.mono HB10.out.size))
  have HV11 := Lib.hid (HV10.out.below hb11)
  have HA11 := Lib.hid (blk' hb11 HA10.out)
  have HD11 := Lib.hid (blk' hb11 HD10.out)
  have HE11 := Lib.hid (blk' hb11 HE10.out)
  have HM11 := Lib.hid hm11
  clear hb11 hm11
  go_wp2_with fail
  generalize hw12 : World.alloc w11 _ = w12
  have HX12 := Lib.hid (show w12.heap[w11.heap.size]? = some (.cells #[.string (lib9 q1 q2 q3 q4 q5 q6).name, .int .i64 (lib9 q1 q2 q3 q4 q5 q6).major, .int .i64 (lib9 q1 q2 q3 q4 q5 q6).minor, .string (lib9 q1 q2 q3 q4 q5 q6).text, .slice (lib9 q1 q2 q3 q4 q5 q6).eA (lib9 q1 q2 q3 q4 q5 q6).ex.length (lib9 q1 q2 q3 q4 q5 q6).eC, .slice (lib9 q1 q2 q3 q4 q5 q6).iA (lib9 q1 q2 q3 q4 q5 q6).im.length (lib9 q1 q2 q3 q4 q5 q6).iC, .slice (lib9 q1 q2 q3 q4 q5 q6).pA (lib9 q1 q2 q3 q4 q5 q6).pa.length (lib9 q1 q2 q3 q4 q5 q6).pC] 70 (0, 0)) by rw [← hw12]; exact heap_alloc_new w11 _)
  have hb12 : Below w11.heap.size w11 w12 := hw12 ▸ (Below.refl _ _).alloc (Nat.le_refl _) _
  have HB12 := Lib.hid (HB11.out.trans (hb12.mono HB11.out.size))
  have HV12 := Lib.hid (HV11.out.below hb12)
  have HA12 := Lib.hid (blk' hb12 HA11.out)
  have HD12 := Lib.hid (blk' hb12 HD11.out)
  have HE12 := Lib.hid (blk' hb12 HE11.out)
  have hm12 : (lib9 q1 q2 q3 q4 q5 q6).ok w12 := by
    have h := HM11.out.below hb12
    exact ⟨h.ex, h.im, h.pa, h.name, h.text⟩
  have HM12 := Lib.hid hm12
  obtain ⟨m9, hm9⟩ : ∃ m, m = lib9 q1 q2 q3 q4 q5 q6 := ⟨_, rfl⟩
  have HP9 := Lib.hid (show ∀ (A : Option Addr) (c : Nat) (a1 a2 a3 b1 b2 b3 : Option Addr) (a4 a5 a6 b4 b5 b6 : Nat), planErr (kern A c) ⟨3, m9, ⟨#[]⟩⟩ (pairB a1 a2 a3 b1 b2 b3 a4 a5 a6 b4 b5 b6) = 0 ∧ cmL ⟨3, m9, ⟨#[]⟩⟩ (pairB a1 a2 a3 b1 b2 b3 a4 a5 a6 b4 b5 b6) = [⟨appM a1 a2 a3 a4 a5 a6, 1⟩, ⟨m9, 4⟩] from
    fun A c a1 a2 a3 b1 b2 b3 a4 a5 a6 b4 b5 b6 => by rw [hm9]; exact pb_upg A c a1 a2 a3 b1 b2 b3 q1 q2 q3 a4 a5 a6 b4 b5 b6 q4 q5 q6)
  have HMI := Lib.hid (show m9.minor = 9 by rw [hm9]; rfl)
  rw [← hm9] at HX12 HM12
  obtain ⟨n0, n1, n2, n3, n4, n5, n6⟩ := box_mod HX12.out
  have hbl := (Array.getElem?_eq_some_iff.1 HX12.out).1
  clear hw12 hb12 hm12 hm9 HM11
  have HC0 := Lib.hid (show Below w12.heap.size w12 w12 ∧ w12.cell? ⟨w11.heap.size, 0, none⟩ = some (.string m9.name) ∧ w12.cell? ⟨w11.heap.size, 1, none⟩ = some (.int .i64 m9.major) ∧ w12.cell? ⟨w11.heap.size, 2, none⟩ = some (.int .i64 m9.minor) ∧ w12.cell? ⟨w11.heap.size, 3, none⟩ = some (.string m9.text) ∧ w12.cell? ⟨w11.heap.size, 4, none⟩ = some (.slice m9.eA m9.ex.length m9.eC) ∧ w12.cell? ⟨w11.heap.size, 5, none⟩ = some (.slice m9.iA m9.im.length m9.iC) ∧ w12.cell? ⟨w11.heap.size, 6, none⟩ = some (.slice m9.pA m9.pa.length m9.pC) from ⟨Below.refl _ _, by assumption, by assumption, by assumption, by assumption, by assumption, by assumption, by assumption⟩)
  have HCD := Lib.hid (show ∀ W' : World, (Below w12.heap.size w12 W' ∧ W'.cell? ⟨w11.heap.size, 0, none⟩ = some (.string m9.name) ∧ W'.cell? ⟨w11.heap.size, 1, none⟩ = some (.int .i64 m9.major) ∧ W'.cell? ⟨w11.heap.size, 2, none⟩ = some (.int .i64 m9.minor) ∧ W'.cell? ⟨w11.heap.size, 3, none⟩ = some (.string m9.text) ∧ W'.cell? ⟨w11.heap.size, 4, none⟩ = some (.slice m9.eA m9.ex.length m9.eC) ∧ W'.cell? ⟨w11.heap.size, 5, none⟩ = some (.slice m9.iA m9.im.length m9.iC) ∧ W'.cell? ⟨w11.heap.size, 6, none⟩ = some (.slice m9.pA m9.pa.length m9.pC)) → (Below w12.heap.size w12 W'.drew ∧ W'.drew.cell? ⟨w11.heap.size, 0, none⟩ = some (.string m9.name) ∧ W'.drew.cell? ⟨w11.heap.size, 1, none⟩ = some (.int .i64 m9.major) ∧ W'.drew.cell? ⟨w11.heap.size, 2, none⟩ = some (.int .i64 m9.minor) ∧ W'.drew.cell? ⟨w11.heap.size, 3, none⟩ = some (.string m9.text) ∧ W'.drew.cell? ⟨w11.heap.size, 4, none⟩ = some (.slice m9.eA m9.ex.length m9.eC) ∧ W'.drew.cell? ⟨w11.heap.size, 5, none⟩ = some (.slice m9.iA m9.im.length m9.iC) ∧ W'.drew.cell? ⟨w11.heap.size, 6, none⟩ = some (.slice m9.pA m9.pa.length m9.pC)) from fun W' ⟨b, a0, a1, a2, a3, a4, a5, a6⟩ => ⟨b.drew, a0, a1, a2, a3, a4, a5, a6⟩)
  have HCS := Lib.hid (show ∀ W' W2 : World, (Below w12.heap.size w12 W' ∧ W'.cell? ⟨w11.heap.size, 0, none⟩ = some (.string m9.name) ∧ W'.cell? ⟨w11.heap.size, 1, none⟩ = some (.int .i64 m9.major) ∧ W'.cell? ⟨w11.heap.size, 2, none⟩ = some (.int .i64 m9.minor) ∧ W'.cell? ⟨w11.heap.size, 3, none⟩ = some (.string m9.text) ∧ W'.cell? ⟨w11.heap.size, 4, none⟩ = some (.slice m9.eA m9.ex.length m9.eC) ∧ W'.cell? ⟨w11.heap.size, 5, none⟩ = some (.slice m9.iA m9.im.length m9.iC) ∧ W'.cell? ⟨w11.heap.size, 6, none⟩ = some (.slice m9.pA m9.pa.length m9.pC)) → Below W'.heap.size W' W2 → (Below w12.heap.size w12 W2 ∧ W2.cell? ⟨w11.heap.size, 0, none⟩ = some (.string m9.name) ∧ W2.cell? ⟨w11.heap.size, 1, none⟩ = some (.int .i64 m9.major) ∧ W2.cell? ⟨w11.heap.size, 2, none⟩ = some (.int .i64 m9.minor) ∧ W2.cell? ⟨w11.heap.size, 3, none⟩ = some (.string m9.text) ∧ W2.cell? ⟨w11.heap.size, 4, none⟩ = some (.slice m9.eA m9.ex.length m9.eC) ∧ W2.cell? ⟨w11.heap.size, 5, none⟩ = some (.slice m9.iA m9.im.length m9.iC) ∧ W2.cell? ⟨w11.heap.size, 6, none⟩ = some (.slice m9.pA m9.pa.length m9.pC)) from fun W' W2 ⟨b, a0, a1, a2, a3, a4, a5, a6⟩ hb => have s := b.size; ⟨b.trans (hb.mono s), (hb.cell (by first | omega | (simp; omega) | (simp only [block_of_add]; omega))).trans a0, (hb.cell (by first | omega | (simp; omega) | (simp only [block_of_add]; omega))).trans a1, (hb.cell (by first | omega | (simp; omega) | (simp only [block_of_add]; omega))).trans a2, (hb.cell (by first | omega | (simp; omega) | (simp only [block_of_add]; omega))).trans a3, (hb.cell (by first | omega | (simp; omega) | (simp only [block_of_add]; omega))).trans a4, (hb.cell (by first | omega | (simp; omega) | (simp only [block_of_add]; omega))).trans a5, (hb.cell (by first | omega | (simp; omega) | (simp only [block_of_add]; omega))).trans a6⟩)
  have HCA := Lib.hid (show ∀ (W' : World) (o : Obj), (Below w12.heap.size w12 W' ∧ W'.cell? ⟨w11.heap.size, 0, none⟩ = some (.string m9.name) ∧ W'.cell? ⟨w11.heap.size, 1, none⟩ = some (.int .i64 m9.major) ∧ W'.cell? ⟨w11.heap.size, 2, none⟩ = some (.int .i64 m9.minor) ∧ W'.cell? ⟨w11.heap.size, 3, none⟩ = some (.string m9.text) ∧ W'.cell? ⟨w11.heap.size, 4, none⟩ = some (.slice m9.eA m9.ex.length m9.eC) ∧ W'.cell? ⟨w11.heap.size, 5, none⟩ = some (.slice m9.iA m9.im.length m9.iC) ∧ W'.cell? ⟨w11.heap.size, 6, none⟩ = some (.slice m9.pA m9.pa.length m9.pC)) → (Below w12.heap.size w12 (W'.alloc o) ∧ (W'.alloc o).cell? ⟨w11.heap.size, 0, none⟩ = some (.string m9.name) ∧ (W'.alloc o).cell? ⟨w11.heap.size, 1, none⟩ = some (.int .i64 m9.major) ∧ (W'.alloc o).cell? ⟨w11.heap.size, 2, none⟩ = some (.int .i64 m9.minor) ∧ (W'.alloc o).cell? ⟨w11.heap.size, 3, none⟩ = some (.string m9.text) ∧ (W'.alloc o).cell? ⟨w11.heap.size, 4, none⟩ = some (.slice m9.eA m9.ex.length m9.eC) ∧ (W'.alloc o).cell? ⟨w11.heap.size, 5, none⟩ = some (.slice m9.iA m9.im.length m9.iC) ∧ (W'.alloc o).cell? ⟨w11.heap.size, 6, none⟩ = some (.slice m9.pA m9.pa.length m9.pC)) from fun W' o hc => HCS.out W' (W'.alloc o) hc ((Below.refl _ _).alloc (Nat.le_refl _) o))
  have HCX := Lib.hid (show ∀ (W' : World) (bX oX : Nat) (vX : Value), w12.heap.size ≤ bX → (Below w12.heap.size w12 W' ∧ W'.cell? ⟨w11.heap.size, 0, none⟩ = some (.string m9.name) ∧ W'.cell? ⟨w11.heap.size, 1, none⟩ = some (.int .i64 m9.major) ∧ W'.cell? ⟨w11.heap.size, 2, none⟩ = some (.int .i64 m9.minor) ∧ W'.cell? ⟨w11.heap.size, 3, none⟩ = some (.string m9.text) ∧ W'.cell? ⟨w11.heap.size, 4, none⟩ = some (.slice m9.eA m9.ex.length m9.eC) ∧ W'.cell? ⟨w11.heap.size, 5, none⟩ = some (.slice m9.iA m9.im.length m9.iC) ∧ W'.cell? ⟨w11.heap.size, 6, none⟩ = some (.slice m9.pA m9.pa.length m9.pC)) → (Below w12.heap.size w12 (W'.setCell ⟨bX, oX, none⟩ vX) ∧ (W'.setCell ⟨bX, oX, none⟩ vX).cell? ⟨w11.heap.size, 0, none⟩ = some (.string m9.name) ∧ (W'.setCell ⟨bX, oX, none⟩ vX).cell? ⟨w11.heap.size, 1, none⟩ = some (.int .i64 m9.major) ∧ (W'.setCell ⟨bX, oX, none⟩ vX).cell? ⟨w11.heap.size, 2, none⟩ = some (.int .i64 m9.minor) ∧ (W'.setCell ⟨bX, oX, none⟩ vX).cell? ⟨w11.heap.size, 3, none⟩ = some (.string m9.text) ∧ (W'.setCell ⟨bX, oX, none⟩ vX).cell? ⟨w11.heap.size, 4, none⟩ = some (.slice m9.eA m9.ex.length m9.eC) ∧ (W'.setCell ⟨bX, oX, none⟩ vX).cell? ⟨w11.heap.size, 5, none⟩ = some (.slice m9.iA m9.im.length m9.iC) ∧ (W'.setCell ⟨bX, oX, none⟩ vX).cell? ⟨w11.heap.size, 6, none⟩ = some (.slice m9.pA m9.pa.length m9.pC)) from fun W' bX oX vX hbX ⟨b, a0, a1, a2, a3, a4, a5, a6⟩ => ⟨b.setCell (p := ⟨bX, oX, none⟩) hbX vX, (((Below.refl _ _).setCell (p := ⟨bX, oX, none⟩) hbX vX).cell (by first | omega | (simp; omega) | (simp only [block_of_add]; omega))).trans a0, (((Below.refl _ _).setCell (p := ⟨bX, oX, none⟩) hbX vX).cell (by first | omega | (simp; omega) | (simp only [block_of_add]; omega))).trans a1, (((Below.refl _ _).setCell (p := ⟨bX, oX, none⟩) hbX vX).cell (by first | omega | (simp; omega) | (simp only [block_of_add]; omega))).trans a2, (((Below.refl _ _).setCell (p := ⟨bX, oX, none⟩) hbX vX).cell (by first | omega | (simp; omega) | (simp only [block_of_add]; omega))).trans a3, (((Below.refl _ _).setCell (p := ⟨bX, oX, none⟩) hbX vX).cell (by first | omega | (simp; omega) | (simp only [block_of_add]; omega))).trans a4, (((Below.refl _ _).setCell (p := ⟨bX, oX, none⟩) hbX vX).cell (by first | omega | (simp; omega) | (simp only [block_of_add]; omega))).trans a5, (((Below.refl _ _).setCell (p := ⟨bX, oX, none⟩) hbX vX).cell (by first | omega | (simp; omega) | (simp only [block_of_add]; omega))).trans a6⟩)
  have HCL := Lib.hid (show ∀ W' : World, (Below w12.heap.size w12 W' ∧ W'.cell? ⟨w11.heap.size, 0, none⟩ = some (.string m9.name) ∧ W'.cell? ⟨w11.heap.size, 1, none⟩ = some (.int .i64 m9.major) ∧ W'.cell? ⟨w11.heap.size, 2, none⟩ = some (.int .i64 m9.minor) ∧ W'.cell? ⟨w11.heap.size, 3, none⟩ = some (.string m9.text) ∧ W'.cell? ⟨w11.heap.size, 4, none⟩ = some (.slice m9.eA m9.ex.length m9.eC) ∧ W'.cell? ⟨w11.heap.size, 5, none⟩ = some (.slice m9.iA m9.im.length m9.iC) ∧ W'.cell? ⟨w11.heap.size, 6, none⟩ = some (.slice m9.pA m9.pa.length m9.pC)) → Below w12.heap.size w12 W' from fun W' hc => hc.1)
  have HZN := Lib.hid (show ∀ W' : World, Below (w12.alloc (.cells #[.int .i64 0, .int .i64 0, .slice none 0 0, .slice none 0 0] 39)).drew.heap.size (w12.alloc (.cells #[.int .i64 0, .int .i64 0, .slice none 0 0, .slice none 0 0] 39)).drew W' → W'.heap[w12.heap.size]? = some (.cells #[.int .i64 0, .int .i64 0, .slice none 0 0, .slice none 0 0] 39 (0, 0)) from
    fun W' hb => (hb.block w12.heap.size (by show w12.heap.size < (w12.alloc _).heap.size; simp)).trans (heap_alloc_new w12 _))
  have HX4 := Lib.hid (show ∀ (W : World), (Below w12.heap.size w12 W ∧ W.cell? ⟨w11.heap.size, 0, none⟩ = some (.string m9.name) ∧ W.cell? ⟨w11.heap.size, 1, none⟩ = some (.int .i64 m9.major) ∧ W.cell? ⟨w11.heap.size, 2, none⟩ = some (.int .i64 m9.minor) ∧ W.cell? ⟨w11.heap.size, 3, none⟩ = some (.string m9.text) ∧ W.cell? ⟨w11.heap.size, 4, none⟩ = some (.slice m9.eA m9.ex.length m9.eC) ∧ W.cell? ⟨w11.heap.size, 5, none⟩ = some (.slice m9.iA m9.im.length m9.iC) ∧ W.cell? ⟨w11.heap.size, 6, none⟩ = some (.slice m9.pA m9.pa.length m9.pC)) → ∀ (b : Nat), w12.heap.size ≤ b → ∀ v0 v1 v2 v3 W2, W2 = (((W.setCell ⟨b, 0, none⟩ v0).setCell ⟨b, 1, none⟩ v1).setCell ⟨b, 2, none⟩ v2).setCell ⟨b, 3, none⟩ v3 → (Below w12.heap.size w12 W2 ∧ W2.cell? ⟨w11.heap.size, 0, none⟩ = some (.string m9.name) ∧ W2.cell? ⟨w11.heap.size, 1, none⟩ = some (.int .i64 m9.major) ∧ W2.cell? ⟨w11.heap.size, 2, none⟩ = some (.int .i64 m9.minor) ∧ W2.cell? ⟨w11.heap.size, 3, none⟩ = some (.string m9.text) ∧ W2.cell? ⟨w11.heap.size, 4, none⟩ = some (.slice m9.eA m9.ex.length m9.eC) ∧ W2.cell? ⟨w11.heap.size, 5, none⟩ = some (.slice m9.iA m9.im.length m9.iC) ∧ W2.cell? ⟨w11.heap.size, 6, none⟩ = some (.slice m9.pA m9.pa.length m9.pC)) from
    fun W hS b hb v0 v1 v2 v3 W2 e => by rw [e]; exact HCX.out _ _ _ _ hb (HCX.out _ _ _ _ hb (HCX.out _ _ _ _ hb (HCX.out _ _ _ _ hb hS))))
  go_cut [8, 9] from 28 to 33 (fun p e wx => UpgCut w12 m9 p e wx)
  case first =>
    go_region_held3 (fun W' => Below w12.heap.size w12 W' ∧ W'.cell? ⟨w11.heap.size, 0, none⟩ = some (.string m9.name) ∧ W'.cell? ⟨w11.heap.size, 1, none⟩ = some (.int .i64 m9.major) ∧ W'.cell? ⟨w11.heap.size, 2, none⟩ = some (.int .i64 m9.minor) ∧ W'.cell? ⟨w11.heap.size, 3, none⟩ = some (.string m9.text) ∧ W'.cell? ⟨w11.heap.size, 4, none⟩ = some (.slice m9.eA m9.ex.length m9.eC) ∧ W'.cell? ⟨w11.heap.size, 5, none⟩ = some (.slice m9.iA m9.im.length m9.iC) ∧ W'.cell? ⟨w11.heap.size, 6, none⟩ = some (.slice m9.pA m9.pa.length m9.pC)) (first | with_reducible exact HC0.out | with_reducible exact HCD.out _ HC0.out | with_reducible assumption | with_reducible exact HCS.out _ _ HC0.out HBW14.out | with_reducible exact HX4.out _ (HCS.out _ _ HC0.out HBW14.out) _ HLE13.out _ _ _ _ _ rfl | with_reducible exact HX4.out _ (HCS.out _ _ HC0.out HBW14.out) _ (Nat.le_refl _) _ _ _ _ _ rfl | with_reducible exact HCS.out _ _ HC0.out HBX13.out | with_reducible exact HCA.out _ _ (HCD.out _ HC0.out) | with_reducible exact HCA.out _ _ HC0.out | with_reducible exact HCA.out _ _ (HCS.out _ _ HC0.out HBX13.out) | with_reducible exact HCA.out _ _ (HCS.out _ _ HC0.out HBW14.out) | with_reducible exact HCD.out _ (HCA.out _ _ HC0.out) | with_reducible exact HX4.out _ (HCA.out _ _ (HCS.out _ _ HC0.out HBW14.out)) _ (Nat.le_refl _) _ _ _ _ _ rfl) (first | (go_at_call 73; (with_reducible refine (reg_any _).mono ?_); rintro e w13 ⟨⟨A13, c13, A14, c14, r1, r2, r3, r4, r5, r6, s1, s2, s3, s4, s5, s6, rfl, hk13, hl13⟩, hb13⟩; have HBX13 := Lib.hid (show Below w12.heap.size w12 w13 from by first | with_reducible exact (Below.refl _ w12).drew.trans (hb13.mono (Nat.le_refl _)) | exact ((Below.refl _ w12).alloc (Nat.le_refl _) _).drew.trans (hb13.mono (by simp)) | exact ((Below.refl _ w12).drew.alloc (Nat.le_refl _) _).trans (hb13.mono (by simp)) | exact ((Below.refl _ w12).alloc (Nat.le_refl _) _).trans (hb13.mono (by simp))); (try (have hz13 := (by with_reducible exact HZN.out w13 hb13))); have HLE13 := Lib.hid HBX13.out.size; have HZ13 := Lib.hid (zero_kept w13); have cU := Lib.hid (upg_call (c := c14) HBX13.out hk13 hl13 HM12.out (HP9.out A13 c13 r1 r2 r3 s1 s2 s3 r4 r5 r6 s4 s5 s6)); clear hk13 hl13) | (go_at_call 37; (with_reducible refine (cU.out _ (by first | with_reducible exact Below.refl _ _ | with_reducible exact (Below.refl _ _).alloc (Nat.le_refl _) _ | with_reducible exact (Below.refl _ _).drew | with_reducible exact ((Below.refl _ _).alloc (Nat.le_refl _) _).drew)).mono ?_); rintro e w14 ⟨⟨k14, A15, x14, y14, c15, rfl, hrow14, hy14, hmi14⟩, hb14, hbw14⟩; have HQ14 := Lib.hid (And.intro hrow14 (And.intro hy14 hmi14)); have HBW14 := Lib.hid (HBX13.out.trans (hbw14.mono HBX13.out.size)); (first | (have hz14 := (by with_reducible exact HZ13.out w14 hb14)) | (have hz14 := (by with_reducible exact blk' hb14 hz13)) | skip); (try (have zz0 := heap_cell hz14 0; have zz1 := heap_cell hz14 1; have zz2 := heap_cell hz14 2; have zz3 := heap_cell hz14 3; have zf0 := heap_free hz14 0; have zf1 := heap_free hz14 1; have zf2 := heap_free hz14 2; have zf3 := heap_free hz14 3; simp only [List.getElem?_toArray, List.getElem?_cons_zero, List.getElem?_cons_succ] at zz0 zz1 zz2 zz3)); clear hrow14 hy14 hmi14 hbw14))
    all_goals (
      go_wp2_with fail
      go_meet
      first
        | exact UpgCut.new HBW14.out HQ14.out
        | exact UpgCut.old HBW14.out hz14 HLE13.out HQ14.out
        | exact UpgCut.old HBW14.out hz14 (Nat.le_refl _) HQ14.out)
  case rest =>
    obtain ⟨b15, k15, A15, x15, y15, c15, rfl, rfl, h15, hrow15, hf15, hmn15, hb15⟩ := hcut
    obtain ⟨w15, rfl⟩ : ∃ W : World, W = wc := ⟨_, rfl⟩
    have HB15 := Lib.hid (HB12.out.trans (hb15.mono HB12.out.size))
    have HV15 := Lib.hid (HV12.out.below hb15)
    have HA15 := Lib.hid (blk' hb15 HA12.out)
    have HD15 := Lib.hid (blk' hb15 HD12.out)
    have HE15 := Lib.hid (blk' hb15 HE12.out)
    have hm9 := hmn15.trans HMI.out
    obtain ⟨ad, rfl, _, v0, _⟩ := plc_at HV15.out (Below.refl _ _) 0 (by simp)
    obtain ⟨ad2, rfl, _, _, _, u2, _, _, _, _, u7⟩ := plc_at hrow15 (Below.refl _ _) 1 (by simp)
    simp only [List.getElem_cons_zero, List.getElem_cons_succ, HM3.out, hm9, hf15] at v0 u2 u7
    simp [Addr.add] at v0 u2 u7
    obtain ⟨_, a0', a1', a2', a3', _⟩ := rgcells HA15.out
    obtain ⟨_, d0', d1', d2', d3', _⟩ := rgcells HD15.out
    obtain ⟨_, f0', f1', f2', f3', _⟩ := rgcells h15
    clear hb15 hm9 hmn15 hf15 hrow15 h15
    go_wp2_with fail
    go_ret
    exact ⟨by simp, HB15.out⟩

end Go.Proofs.YtjiedaialianmaaGreat
