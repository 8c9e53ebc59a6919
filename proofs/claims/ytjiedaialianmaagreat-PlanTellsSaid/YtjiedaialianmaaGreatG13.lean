import Derived.Test.YtjiedaialianmaaGreatG12
import Derived.Test.YtjiedaialianmaaGreatG11
import Derived.Test.YtjiedaialianmaaGreatG04
import Derived.Test.YtjiedaialianmaaGreatG10
import Derived.Test.YtjiedaialianmaaGreatG08
section

namespace Go.Proofs.YtjiedaialianmaaGreat
open Go.RowKit Go.Lib

theorem set_first : ∀ (l : List Plc) (j : Nat) (h : j < l.length) (a : Int), (l.flatMap Plc.cells).set (j * 8 + 7) (.int .i64 a) = (l.set j ⟨l[j].m, a⟩).flatMap Plc.cells
  | x :: l, 0, _, a => by
    show (x.cells ++ l.flatMap Plc.cells).set 7 (.int .i64 a) = (⟨x.m, a⟩ : Plc).cells ++ l.flatMap Plc.cells
    rw [List.set_append_left _ _ (by show 7 < (x.cells).length; exact Nat.lt_of_lt_of_eq (by decide : 7 < 8) rfl)]
    rfl
  | x :: l, j + 1, h, a => by
    show (x.cells ++ l.flatMap Plc.cells).set ((j + 1) * 8 + 7) (.int .i64 a) = x.cells ++ (l.set j ⟨(x :: l)[j + 1].m, a⟩).flatMap Plc.cells
    have hl : x.cells.length = 8 := rfl
    rw [List.set_append_right _ _ (by rw [hl]; omega), hl, show (j + 1) * 8 + 7 - 8 = j * 8 + 7 by omega, set_first l j (by simpa using h) a]
    rfl
theorem PlcOwn.at_ {w : World} {base : Nat} {A : Option Addr} {c j : Nat} {l : List Plc} (h : PlcOwn w base (.slice A l.length c) l) (hj : j < l.length) :
    ∃ g, A = some ⟨g, 0, none⟩ ∧ base ≤ g ∧ g < w.heap.size ∧ (∃ cs, w.heap[g]? = some (.cells cs 83 (0, 0))) ∧ (∃ u, w.cell? ⟨g, j * 8 + 7, none⟩ = some u) ∧ w.frozen? ⟨g, j * 8 + 7, none⟩ = false ∧
      ∀ a, PlcOwn (w.setCell ⟨g, j * 8 + 7, none⟩ (.int .i64 a)) base (.slice A l.length c) (l.set j ⟨l[j].m, a⟩) := by
  obtain ⟨h1, h2⟩ := h
  rcases h2 with ⟨_, h0⟩ | ⟨g, cap, cur, hv, hg, hb, hnc, hcm, hsz, htk⟩
  · omega
  injection hv with ha hk hc
  subst ha
  have hlt : j * 8 + 7 < l.length * 8 := by omega
  have hflen : (l.flatMap Plc.cells).length = l.length * 8 := flat_length (enc := Plc.cells) (k := 8) (fun _ => rfl) l
  have hcl : j * 8 + 7 < cur.size := by
    have := congrArg List.length htk
    rw [List.length_take, hflen] at this
    simp at this
    omega
  refine ⟨g, rfl, hg, (Array.getElem?_eq_some_iff.1 hb).1, ⟨cur, hb⟩, ⟨cur[j * 8 + 7], by rw [heap_cell hb, Array.getElem?_eq_getElem hcl]⟩, heap_free hb _, fun a => ?_⟩
  refine ⟨by rw [List.length_set, flat_length (enc := Plc.cells) (k := 8) (fun _ => rfl), List.length_set], .inr ⟨g, cap, cur.setIfInBounds (j * 8 + 7) (.int .i64 a), ?_, hg, heap_setCell_same w g _ cur _ _ hb, ?_, hcm, by simpa using hsz, ?_⟩⟩
  · rw [← hc, List.length_set]
  · simpa using hnc
  · rw [Array.toList_setIfInBounds, List.take_set, List.length_set, htk, set_first l j hj a]

end Go.Proofs.YtjiedaialianmaaGreat
end

section

open Go
namespace Go.Proofs.YtjiedaialianmaaGreat

theorem len_like {l l' : List Plc} (h : bares l = bares l') : l.length = l'.length := by
  have := congrArg List.length h
  simpa using this
end Go.Proofs.YtjiedaialianmaaGreat
end

section

namespace Go.Proofs.YtjiedaialianmaaGreat
open Go.RowKit Go.Lib

/-- a registry of the call's own that tells what another one tells -/
structure RgIs (W : World) (base : Nat) (k : Krn) (A : Option Addr) (l : List Plc) (c : Nat) (K : Krn) (L : List Plc) : Prop where
  own : RgOwn W base k A l c
  kern : k.bare = K.bare
  mods : bares l = bares L
/-- what the packing loop keeps -/
structure PackInv (w w2 : World) (bp base q : Nat) (k1 : Krn) (A1 : Option Addr) (c1 : Nat) (l1 L : List Plc) (W : World) : Prop where
  heap : W.heap[bp]? = some (.cells #[.int .i64 k1.major, .int .i64 k1.minor, .slice k1.eA k1.ex.length k1.eC, .slice A1 L.length c1] 182 (0, 0))
  row : PlcOwn W base (.slice A1 L.length c1) L
  r16 : Row16 0 L
  same : L.map (·.m) = l1.map (·.m)
  pack : packL 0 l1 = ((packL 0 L).1, (packL 0 L).2 + q)
  kp : Kp [83] w2 W
  bel : Below w.heap.size w W
  size : base ≤ W.heap.size

theorem rgcells {W : World} {b : Nat} {v0 v1 v2 v3 : Value} {t : TypeId} (h : W.heap[b]? = some (.cells #[v0, v1, v2, v3] t (0, 0))) :
    Hid (W.heap[b]? = some (.cells #[v0, v1, v2, v3] t (0, 0))) ∧ W.cell? ⟨b, 0, none⟩ = some v0 ∧ W.cell? ⟨b, 1, none⟩ = some v1 ∧ W.cell? ⟨b, 2, none⟩ = some v2 ∧ W.cell? ⟨b, 3, none⟩ = some v3 ∧ W.frozen? ⟨b, 0, none⟩ = false ∧ W.frozen? ⟨b, 1, none⟩ = false ∧ W.frozen? ⟨b, 2, none⟩ = false ∧ W.frozen? ⟨b, 3, none⟩ = false :=
  ⟨Lib.hid h, heap_cell h 0, heap_cell h 1, heap_cell h 2, heap_cell h 3, heap_free h 0, heap_free h 1, heap_free h 2, heap_free h 3⟩

end Go.Proofs.YtjiedaialianmaaGreat
end

section

namespace Go.Proofs.YtjiedaialianmaaGreat
open Go.RowKit Go.Lib

theorem krn_small {k : Krn} (h : krnErr k = 0) : k.ex.length ≤ 1000000 := by
  unfold krnErr at h
  split at h
  · omega
  · split at h
    · omega
    · omega
theorem rg_facts {k : Krn} {l : List Plc} (h : rgErr k l = 0) : (∀ x ∈ l, modErr x.m = 0) ∧ Row16 0 l ∧ l.length ≤ 8 ∧ k.ex.length ≤ 1000000 := by
  have h1 := (rgErr_ok h).1
  obtain ⟨k1, k2, k3, _⟩ := linkErr_ok h1
  have hr := reg_row k2
  exact ⟨fun x hx => (hr.2.1 x hx).1, hr.2.2, hr.1, krn_small k1⟩
/-- what is told beside an errno: nothing, or the registry itself -/
def wK (E : Int) (k : Krn) : Krn := if E ≠ 0 then noKrn else k
def wL (E : Int) (l : List Plc) : List Plc := if E ≠ 0 then [] else l
theorem wK0 (k : Krn) : wK 0 k = k := rfl
theorem wL0 (l : List Plc) : wL 0 l = l := rfl
theorem wKE {E : Int} (h : E ≠ 0) (k : Krn) : wK E k = noKrn := if_pos h
theorem wLE {E : Int} (h : E ≠ 0) (l : List Plc) : wL E l = [] := if_pos h
theorem rgIs_none (W : World) (base : Nat) {E : Int} (h : E ≠ 0) (k : Krn) (l : List Plc) : RgIs W base noKrn none [] 0 (wK E k) (wL E l) := by
  rw [wKE h, wLE h]
  exact ⟨⟨World.ownsRow_nil _ _ _ _, ⟨World.ownsRow_nil _ _ _ _, by simp⟩⟩, rfl, rfl⟩

end Go.Proofs.YtjiedaialianmaaGreat
end

section

namespace Go.Proofs.YtjiedaialianmaaGreat
open Go.RowKit Go.Lib

set_option maxHeartbeats 4000000 in
set_option maxRecDepth 100000 in
theorem SamePlaced_any (A A' : Option Addr) (c c' : Nat) (l l' : List Plc) (w : World) (h : PlsOk w A l) (h' : PlsOk w A' l') (hs : bares l = bares l') :
    Calls Tryz.prog 85 #[.slice A l.length c, .slice A' l'.length c'] w fun e w' => e = .returned (.bool true) ∧ Below w.heap.size w w' := by
  have hll : l'.length = l.length := by have := congrArg List.length hs; simpa using this.symm
  rw [hll]
  have hlen := h.len
  unfold big at hlen
  have HP := Lib.hid h
  have HP' := Lib.hid h'
  have HS := Lib.hid (show ∀ j (hj : j < l.length) (hj' : j < l'.length), l[j].m.bare = l'[j].m.bare ∧ l[j].first = l'[j].first from fun j hj hj' => by
    have e : (bares l)[j]'(by simpa using hj) = (bares l')[j]'(by simpa using hj') := by simp only [hs]
    simp only [List.getElem_map] at e
    exact ⟨congrArg Plc.m e, by have := congrArg Plc.first e; exact this⟩)
  have HLL := Lib.hid hll
  clear h h' hs hll
  go_enter Tryz.func85, Tryz.ntmps85
  go_wp2_with fail
  go_loopw [5] (fun i wr => ∃ j : Nat, j ≤ l.length ∧ i = .int .i64 j ∧ Below w.heap.size w wr) (fun i _ => l.length - (intOf i).toNat)
  case atStart => exact ⟨0, by omega, rfl, Below.refl _ _⟩
  case round =>
    obtain ⟨j, hj, rfl, hb⟩ := hrel
    have HB := Lib.hid hb
    by_cases hlt : j < l.length
    · have hlt' : (j : Int) < l.length := by omega
      have hlt2 : j < l'.length := by rw [HLL.out]; exact hlt
      obtain ⟨s1, s2⟩ := HS.out j hlt hlt2
      obtain ⟨ad, rfl, hab, p0, p1, p2, p3, p4, p5, p6, p7⟩ := plc_at HP.out.row hb j hlt
      obtain ⟨bd, rfl, hbb, q0, q1, q2, q3, q4, q5, q6, q7⟩ := plc_at HP'.out.row hb j hlt2
      have hx := HP.out.each l[j] (List.getElem_mem _)
      have hx' := HP'.out.each l'[j] (List.getElem_mem _)
      obtain ⟨y, hy⟩ : ∃ y, y = l[j]'hlt := ⟨_, rfl⟩
      obtain ⟨z, hz⟩ : ∃ z, z = l'[j]'hlt2 := ⟨_, rfl⟩
      simp only [← hy, ← hz] at s1 s2 p0 p1 p2 p3 p4 p5 p6 p7 q0 q1 q2 q3 q4 q5 q6 q7 hx hx'
      have cS := Lib.hid (fun W (hb : Below w.heap.size w W) => SameModule_any y.m z.m W (bare_sameC s1) (hx.below hb) (hx'.below hb))
      have habr : (ad.add (j * 8)).block < wr.heap.size := by rw [block_of_add]; have := hb.size; omega
      have hbbr : (bd.add (j * 8)).block < wr.heap.size := by rw [block_of_add]; have := hb.size; omega
      rw [← s2] at q7
      clear hb s1 s2 hx hx' hy hz hlt2
      have HC0 := Lib.hid (show Below wr.heap.size wr wr ∧ wr.cell? (ad.add (j * 8)) = some (.string y.m.name) ∧ wr.cell? ⟨(ad.add (j * 8)).block, (ad.add (j * 8)).off + 1, none⟩ = some (.int .i64 y.m.major) ∧ wr.cell? ⟨(ad.add (j * 8)).block, (ad.add (j * 8)).off + 2, none⟩ = some (.int .i64 y.m.minor) ∧ wr.cell? ⟨(ad.add (j * 8)).block, (ad.add (j * 8)).off + 3, none⟩ = some (.string y.m.text) ∧ wr.cell? ⟨(ad.add (j * 8)).block, (ad.add (j * 8)).off + 4, none⟩ = some (.slice y.m.eA y.m.ex.length y.m.eC) ∧ wr.cell? ⟨(ad.add (j * 8)).block, (ad.add (j * 8)).off + 5, none⟩ = some (.slice y.m.iA y.m.im.length y.m.iC) ∧ wr.cell? ⟨(ad.add (j * 8)).block, (ad.add (j * 8)).off + 6, none⟩ = some (.slice y.m.pA y.m.pa.length y.m.pC) ∧ wr.cell? ⟨(ad.add (j * 8)).block, (ad.add (j * 8)).off + 7, none⟩ = some (.int .i64 y.first) ∧ wr.cell? (bd.add (j * 8)) = some (.string z.m.name) ∧ wr.cell? ⟨(bd.add (j * 8)).block, (bd.add (j * 8)).off + 1, none⟩ = some (.int .i64 z.m.major) ∧ wr.cell? ⟨(bd.add (j * 8)).block, (bd.add (j * 8)).off + 2, none⟩ = some (.int .i64 z.m.minor) ∧ wr.cell? ⟨(bd.add (j * 8)).block, (bd.add (j * 8)).off + 3, none⟩ = some (.string z.m.text) ∧ wr.cell? ⟨(bd.add (j * 8)).block, (bd.add (j * 8)).off + 4, none⟩ = some (.slice z.m.eA z.m.ex.length z.m.eC) ∧ wr.cell? ⟨(bd.add (j * 8)).block, (bd.add (j * 8)).off + 5, none⟩ = some (.slice z.m.iA z.m.im.length z.m.iC) ∧ wr.cell? ⟨(bd.add (j * 8)).block, (bd.add (j * 8)).off + 6, none⟩ = some (.slice z.m.pA z.m.pa.length z.m.pC) ∧ wr.cell? ⟨(bd.add (j * 8)).block, (bd.add (j * 8)).off + 7, none⟩ = some (.int .i64 y.first) from ⟨Below.refl _ _, by assumption, by assumption, by assumption, by assumption, by assumption, by assumption, by assumption, by assumption, by assumption, by assumption, by assumption, by assumption, by assumption, by assumption, by assumption, by assumption⟩)
      have HCD := Lib.hid (show ∀ W' : World, (Below wr.heap.size wr W' ∧ W'.cell? (ad.add (j * 8)) = some (.string y.m.name) ∧ W'.cell? ⟨(ad.add (j * 8)).block, (ad.add (j * 8)).off + 1, none⟩ = some (.int .i64 y.m.major) ∧ W'.cell? ⟨(ad.add (j * 8)).block, (ad.add (j * 8)).off + 2, none⟩ = some (.int .i64 y.m.minor) ∧ W'.cell? ⟨(ad.add (j * 8)).block, (ad.add (j * 8)).off + 3, none⟩ = some (.string y.m.text) ∧ W'.cell? ⟨(ad.add (j * 8)).block, (ad.add (j * 8)).off + 4, none⟩ = some (.slice y.m.eA y.m.ex.length y.m.eC) ∧ W'.cell? ⟨(ad.add (j * 8)).block, (ad.add (j * 8)).off + 5, none⟩ = some (.slice y.m.iA y.m.im.length y.m.iC) ∧ W'.cell? ⟨(ad.add (j * 8)).block, (ad.add (j * 8)).off + 6, none⟩ = some (.slice y.m.pA y.m.pa.length y.m.pC) ∧ W'.cell? ⟨(ad.add (j * 8)).block, (ad.add (j * 8)).off + 7, none⟩ = some (.int .i64 y.first) ∧ W'.cell? (bd.add (j * 8)) = some (.string z.m.name) ∧ W'.cell? ⟨(bd.add (j * 8)).block, (bd.add (j * 8)).off + 1, none⟩ = some (.int .i64 z.m.major) ∧ W'.cell? ⟨(bd.add (j * 8)).block, (bd.add (j * 8)).off + 2, none⟩ = some (.int .i64 z.m.minor) ∧ W'.cell? ⟨(bd.add (j * 8)).block, (bd.add (j * 8)).off + 3, none⟩ = some (.string z.m.text) ∧ W'.cell? ⟨(bd.add (j * 8)).block, (bd.add (j * 8)).off + 4, none⟩ = some (.slice z.m.eA z.m.ex.length z.m.eC) ∧ W'.cell? ⟨(bd.add (j * 8)).block, (bd.add (j * 8)).off + 5, none⟩ = some (.slice z.m.iA z.m.im.length z.m.iC) ∧ W'.cell? ⟨(bd.add (j * 8)).block, (bd.add (j * 8)).off + 6, none⟩ = some (.slice z.m.pA z.m.pa.length z.m.pC) ∧ W'.cell? ⟨(bd.add (j * 8)).block, (bd.add (j * 8)).off + 7, none⟩ = some (.int .i64 y.first)) → (Below wr.heap.size wr W'.drew ∧ W'.drew.cell? (ad.add (j * 8)) = some (.string y.m.name) ∧ W'.drew.cell? ⟨(ad.add (j * 8)).block, (ad.add (j * 8)).off + 1, none⟩ = some (.int .i64 y.m.major) ∧ W'.drew.cell? ⟨(ad.add (j * 8)).block, (ad.add (j * 8)).off + 2, none⟩ = some (.int .i64 y.m.minor) ∧ W'.drew.cell? ⟨(ad.add (j * 8)).block, (ad.add (j * 8)).off + 3, none⟩ = some (.string y.m.text) ∧ W'.drew.cell? ⟨(ad.add (j * 8)).block, (ad.add (j * 8)).off + 4, none⟩ = some (.slice y.m.eA y.m.ex.length y.m.eC) ∧ W'.drew.cell? ⟨(ad.add (j * 8)).block, (ad.add (j * 8)).off + 5, none⟩ = some (.slice y.m.iA y.m.im.length y.m.iC) ∧ W'.drew.cell? ⟨(ad.add (j * 8)).block, (ad.add (j * 8)).off + 6, none⟩ = some (.slice y.m.pA y.m.pa.length y.m.pC) ∧ W'.drew.cell? ⟨(ad.add (j * 8)).block, (ad.add (j * 8)).off + 7, none⟩ = some (.int .i64 y.first) ∧ W'.drew.cell? (bd.add (j * 8)) = some (.string z.m.name) ∧ W'.drew.cell? ⟨(bd.add (j * 8)).block, (bd.add (j * 8)).off + 1, none⟩ = some (.int .i64 z.m.major) ∧ W'.drew.cell? ⟨(bd.add (j * 8)).block, (bd.add (j * 8)).off + 2, none⟩ = some (.int .i64 z.m.minor) ∧ W'.drew.cell? ⟨(bd.add (j * 8)).block, (bd.add (j * 8)).off + 3, none⟩ = some (.string z.m.text) ∧ W'.drew.cell? ⟨(bd.add (j * 8)).block, (bd.add (j * 8)).off + 4, none⟩ = some (.slice z.m.eA z.m.ex.length z.m.eC) ∧ W'.drew.cell? ⟨(bd.add (j * 8)).block, (bd.add (j * 8)).off + 5, none⟩ = some (.slice z.m.iA z.m.im.length z.m.iC) ∧ W'.drew.cell? ⟨(bd.add (j * 8)).block, (bd.add (j * 8)).off + 6, none⟩ = some (.slice z.m.pA z.m.pa.length z.m.pC) ∧ W'.drew.cell? ⟨(bd.add (j * 8)).block, (bd.add (j * 8)).off + 7, none⟩ = some (.int .i64 y.first)) from fun W' ⟨b, a0, a1, a2, a3, a4, a5, a6, a7, a8, a9, a10, a11, a12, a13, a14, a15⟩ => ⟨b.drew, a0, a1, a2, a3, a4, a5, a6, a7, a8, a9, a10, a11, a12, a13, a14, a15⟩)
      have HCS := Lib.hid (show ∀ W' W2 : World, (Below wr.heap.size wr W' ∧ W'.cell? (ad.add (j * 8)) = some (.string y.m.name) ∧ W'.cell? ⟨(ad.add (j * 8)).block, (ad.add (j * 8)).off + 1, none⟩ = some (.int .i64 y.m.major) ∧ W'.cell? ⟨(ad.add (j * 8)).block, (ad.add (j * 8)).off + 2, none⟩ = some (.int .i64 y.m.minor) ∧ W'.cell? ⟨(ad.add (j * 8)).block, (ad.add (j * 8)).off + 3, none⟩ = some (.string y.m.text) ∧ W'.cell? ⟨(ad.add (j * 8)).block, (ad.add (j * 8)).off + 4, none⟩ = some (.slice y.m.eA y.m.ex.length y.m.eC) ∧ W'.cell? ⟨(ad.add (j * 8)).block, (ad.add (j * 8)).off + 5, none⟩ = some (.slice y.m.iA y.m.im.length y.m.iC) ∧ W'.cell? ⟨(ad.add (j * 8)).block, (ad.add (j * 8)).off + 6, none⟩ = some (.slice y.m.pA y.m.pa.length y.m.pC) ∧ W'.cell? ⟨(ad.add (j * 8)).block, (ad.add (j * 8)).off + 7, none⟩ = some (.int .i64 y.first) ∧ W'.cell? (bd.add (j * 8)) = some (.string z.m.name) ∧ W'.cell? ⟨(bd.add (j * 8)).block, (bd.add (j * 8)).off + 1, none⟩ = some (.int .i64 z.m.major) ∧ W'.cell? ⟨(bd.add (j * 8)).block, (bd.add (j * 8)).off + 2, none⟩ = some (.int .i64 z.m.minor) ∧ W'.cell? ⟨(bd.add (j * 8)).block, (bd.add (j * 8)).off + 3, none⟩ = some (.string z.m.text) ∧ W'.cell? ⟨(bd.add (j * 8)).block, (bd.add (j * 8)).off + 4, none⟩ = some (.slice z.m.eA z.m.ex.length z.m.eC) ∧ W'.cell? ⟨(bd.add (j * 8)).block, (bd.add (j * 8)).off + 5, none⟩ = some (.slice z.m.iA z.m.im.length z.m.iC) ∧ W'.cell? ⟨(bd.add (j * 8)).block, (bd.add (j * 8)).off + 6, none⟩ = some (.slice z.m.pA z.m.pa.length z.m.pC) ∧ W'.cell? ⟨(bd.add (j * 8)).block, (bd.add (j * 8)).off + 7, none⟩ = some (.int .i64 y.first)) → Below W'.heap.size W' W2 → (Below wr.heap.size wr W2 ∧ W2.cell? (ad.add (j * 8)) = some (.string y.m.name) ∧ W2.cell? ⟨(ad.add (j * 8)).block, (ad.add (j * 8)).off + 1, none⟩ = some (.int .i64 y.m.major) ∧ W2.cell? ⟨(ad.add (j * 8)).block, (ad.add (j * 8)).off + 2, none⟩ = some (.int .i64 y.m.minor) ∧ W2.cell? ⟨(ad.add (j * 8)).block, (ad.add (j * 8)).off + 3, none⟩ = some (.string y.m.text) ∧ W2.cell? ⟨(ad.add (j * 8)).block, (ad.add (j * 8)).off + 4, none⟩ = some (.slice y.m.eA y.m.ex.length y.m.eC) ∧ W2.cell? ⟨(ad.add (j * 8)).block, (ad.add (j * 8)).off + 5, none⟩ = some (.slice y.m.iA y.m.im.length y.m.iC) ∧ W2.cell? ⟨(ad.add (j * 8)).block, (ad.add (j * 8)).off + 6, none⟩ = some (.slice y.m.pA y.m.pa.length y.m.pC) ∧ W2.cell? ⟨(ad.add (j * 8)).block, (ad.add (j * 8)).off + 7, none⟩ = some (.int .i64 y.first) ∧ W2.cell? (bd.add (j * 8)) = some (.string z.m.name) ∧ W2.cell? ⟨(bd.add (j * 8)).block, (bd.add (j * 8)).off + 1, none⟩ = some (.int .i64 z.m.major) ∧ W2.cell? ⟨(bd.add (j * 8)).block, (bd.add (j * 8)).off + 2, none⟩ = some (.int .i64 z.m.minor) ∧ W2.cell? ⟨(bd.add (j * 8)).block, (bd.add (j * 8)).off + 3, none⟩ = some (.string z.m.text) ∧ W2.cell? ⟨(bd.add (j * 8)).block, (bd.add (j * 8)).off + 4, none⟩ = some (.slice z.m.eA z.m.ex.length z.m.eC) ∧ W2.cell? ⟨(bd.add (j * 8)).block, (bd.add (j * 8)).off + 5, none⟩ = some (.slice z.m.iA z.m.im.length z.m.iC) ∧ W2.cell? ⟨(bd.add (j * 8)).block, (bd.add (j * 8)).off + 6, none⟩ = some (.slice z.m.pA z.m.pa.length z.m.pC) ∧ W2.cell? ⟨(bd.add (j * 8)).block, (bd.add (j * 8)).off + 7, none⟩ = some (.int .i64 y.first)) from fun W' W2 ⟨b, a0, a1, a2, a3, a4, a5, a6, a7, a8, a9, a10, a11, a12, a13, a14, a15⟩ hb => have s := b.size; ⟨b.trans (hb.mono s), (hb.cell (by first | omega | (simp; omega) | (simp only [block_of_add]; omega))).trans a0, (hb.cell (by first | omega | (simp; omega) | (simp only [block_of_add]; omega))).trans a1, (hb.cell (by first | omega | (simp; omega) | (simp only [block_of_add]; omega))).trans a2, (hb.cell (by first | omega | (simp; omega) | (simp only [block_of_add]; omega))).trans a3, (hb.cell (by first | omega | (simp; omega) | (simp only [block_of_add]; omega))).trans a4, (hb.cell (by first | omega | (simp; omega) | (simp only [block_of_add]; omega))).trans a5, (hb.cell (by first | omega | (simp; omega) | (simp only [block_of_add]; omega))).trans a6, (hb.cell (by first | omega | (simp; omega) | (simp only [block_of_add]; omega))).trans a7, (hb.cell (by first | omega | (simp; omega) | (simp only [block_of_add]; omega))).trans a8, (hb.cell (by first | omega | (simp; omega) | (simp only [block_of_add]; omega))).trans a9, (hb.cell (by first | omega | (simp; omega) | (simp only [block_of_add]; omega))).trans a10, (hb.cell (by first | omega | (simp; omega) | (simp only [block_of_add]; omega))).trans a11, (hb.cell (by first | omega | (simp; omega) | (simp only [block_of_add]; omega))).trans a12, (hb.cell (by first | omega | (simp; omega) | (simp only [block_of_add]; omega))).trans a13, (hb.cell (by first | omega | (simp; omega) | (simp only [block_of_add]; omega))).trans a14, (hb.cell (by first | omega | (simp; omega) | (simp only [block_of_add]; omega))).trans a15⟩)
      have HCA := Lib.hid (show ∀ (W' : World) (o : Obj), (Below wr.heap.size wr W' ∧ W'.cell? (ad.add (j * 8)) = some (.string y.m.name) ∧ W'.cell? ⟨(ad.add (j * 8)).block, (ad.add (j * 8)).off + 1, none⟩ = some (.int .i64 y.m.major) ∧ W'.cell? ⟨(ad.add (j * 8)).block, (ad.add (j * 8)).off + 2, none⟩ = some (.int .i64 y.m.minor) ∧ W'.cell? ⟨(ad.add (j * 8)).block, (ad.add (j * 8)).off + 3, none⟩ = some (.string y.m.text) ∧ W'.cell? ⟨(ad.add (j * 8)).block, (ad.add (j * 8)).off + 4, none⟩ = some (.slice y.m.eA y.m.ex.length y.m.eC) ∧ W'.cell? ⟨(ad.add (j * 8)).block, (ad.add (j * 8)).off + 5, none⟩ = some (.slice y.m.iA y.m.im.length y.m.iC) ∧ W'.cell? ⟨(ad.add (j * 8)).block, (ad.add (j * 8)).off + 6, none⟩ = some (.slice y.m.pA y.m.pa.length y.m.pC) ∧ W'.cell? ⟨(ad.add (j * 8)).block, (ad.add (j * 8)).off + 7, none⟩ = some (.int .i64 y.first) ∧ W'.cell? (bd.add (j * 8)) = some (.string z.m.name) ∧ W'.cell? ⟨(bd.add (j * 8)).block, (bd.add (j * 8)).off + 1, none⟩ = some (.int .i64 z.m.major) ∧ W'.cell? ⟨(bd.add (j * 8)).block, (bd.add (j * 8)).off + 2, none⟩ = some (.int .i64 z.m.minor) ∧ W'.cell? ⟨(bd.add (j * 8)).block, (bd.add (j * 8)).off + 3, none⟩ = some (.string z.m.text) ∧ W'.cell? ⟨(bd.add (j * 8)).block, (bd.add (j * 8)).off + 4, none⟩ = some (.slice z.m.eA z.m.ex.length z.m.eC) ∧ W'.cell? ⟨(bd.add (j * 8)).block, (bd.add (j * 8)).off + 5, none⟩ = some (.slice z.m.iA z.m.im.length z.m.iC) ∧ W'.cell? ⟨(bd.add (j * 8)).block, (bd.add (j * 8)).off + 6, none⟩ = some (.slice z.m.pA z.m.pa.length z.m.pC) ∧ W'.cell? ⟨(bd.add (j * 8)).block, (bd.add (j * 8)).off + 7, none⟩ = some (.int .i64 y.first)) → (Below wr.heap.size wr (W'.alloc o) ∧ (W'.alloc o).cell? (ad.add (j * 8)) = some (.string y.m.name) ∧ (W'.alloc o).cell? ⟨(ad.add (j * 8)).block, (ad.add (j * 8)).off + 1, none⟩ = some (.int .i64 y.m.major) ∧ (W'.alloc o).cell? ⟨(ad.add (j * 8)).block, (ad.add (j * 8)).off + 2, none⟩ = some (.int .i64 y.m.minor) ∧ (W'.alloc o).cell? ⟨(ad.add (j * 8)).block, (ad.add (j * 8)).off + 3, none⟩ = some (.string y.m.text) ∧ (W'.alloc o).cell? ⟨(ad.add (j * 8)).block, (ad.add (j * 8)).off + 4, none⟩ = some (.slice y.m.eA y.m.ex.length y.m.eC) ∧ (W'.alloc o).cell? ⟨(ad.add (j * 8)).block, (ad.add (j * 8)).off + 5, none⟩ = some (.slice y.m.iA y.m.im.length y.m.iC) ∧ (W'.alloc o).cell? ⟨(ad.add (j * 8)).block, (ad.add (j * 8)).off + 6, none⟩ = some (.slice y.m.pA y.m.pa.length y.m.pC) ∧ (W'.alloc o).cell? ⟨(ad.add (j * 8)).block, (ad.add (j * 8)).off + 7, none⟩ = some (.int .i64 y.first) ∧ (W'.alloc o).cell? (bd.add (j * 8)) = some (.string z.m.name) ∧ (W'.alloc o).cell? ⟨(bd.add (j * 8)).block, (bd.add (j * 8)).off + 1, none⟩ = some (.int .i64 z.m.major) ∧ (W'.alloc o).cell? ⟨(bd.add (j * 8)).block, (bd.add (j * 8)).off + 2, none⟩ = some (.int .i64 z.m.minor) ∧ (W'.alloc o).cell? ⟨(bd.add (j * 8)).block, (bd.add (j * 8)).off + 3, none⟩ = some (.string z.m.text) ∧ (W'.alloc o).cell? ⟨(bd.add (j * 8)).block, (bd.add (j * 8)).off + 4, none⟩ = some (.slice z.m.eA z.m.ex.length z.m.eC) ∧ (W'.alloc o).cell? ⟨(bd.add (j * 8)).block, (bd.add (j * 8)).off + 5, none⟩ = some (.slice z.m.iA z.m.im.length z.m.iC) ∧ (W'.alloc o).cell? ⟨(bd.add (j * 8)).block, (bd.add (j * 8)).off + 6, none⟩ = some (.slice z.m.pA z.m.pa.length z.m.pC) ∧ (W'.alloc o).cell? ⟨(bd.add (j * 8)).block, (bd.add (j * 8)).off + 7, none⟩ = some (.int .i64 y.first)) from fun W' o hc => HCS.out W' (W'.alloc o) hc ((Below.refl _ _).alloc (Nat.le_refl _) o))
      have HCX := Lib.hid (show ∀ (W' : World) (bX oX : Nat) (vX : Value), wr.heap.size ≤ bX → (Below wr.heap.size wr W' ∧ W'.cell? (ad.add (j * 8)) = some (.string y.m.name) ∧ W'.cell? ⟨(ad.add (j * 8)).block, (ad.add (j * 8)).off + 1, none⟩ = some (.int .i64 y.m.major) ∧ W'.cell? ⟨(ad.add (j * 8)).block, (ad.add (j * 8)).off + 2, none⟩ = some (.int .i64 y.m.minor) ∧ W'.cell? ⟨(ad.add (j * 8)).block, (ad.add (j * 8)).off + 3, none⟩ = some (.string y.m.text) ∧ W'.cell? ⟨(ad.add (j * 8)).block, (ad.add (j * 8)).off + 4, none⟩ = some (.slice y.m.eA y.m.ex.length y.m.eC) ∧ W'.cell? ⟨(ad.add (j * 8)).block, (ad.add (j * 8)).off + 5, none⟩ = some (.slice y.m.iA y.m.im.length y.m.iC) ∧ W'.cell? ⟨(ad.add (j * 8)).block, (ad.add (j * 8)).off + 6, none⟩ = some (.slice y.m.pA y.m.pa.length y.m.pC) ∧ W'.cell? ⟨(ad.add (j * 8)).block, (ad.add (j * 8)).off + 7, none⟩ = some (.int .i64 y.first) ∧ W'.cell? (bd.add (j * 8)) = some (.string z.m.name) ∧ W'.cell? ⟨(bd.add (j * 8)).block, (bd.add (j * 8)).off + 1, none⟩ = some (.int .i64 z.m.major) ∧ W'.cell? ⟨(bd.add (j * 8)).block, (bd.add (j * 8)).off + 2, none⟩ = some (.int .i64 z.m.minor) ∧ W'.cell? ⟨(bd.add (j * 8)).block, (bd.add (j * 8)).off + 3, none⟩ = some (.string z.m.text) ∧ W'.cell? ⟨(bd.add (j * 8)).block, (bd.add (j * 8)).off + 4, none⟩ = some (.slice z.m.eA z.m.ex.length z.m.eC) ∧ W'.cell? ⟨(bd.add (j * 8)).block, (bd.add (j * 8)).off + 5, none⟩ = some (.slice z.m.iA z.m.im.length z.m.iC) ∧ W'.cell? ⟨(bd.add (j * 8)).block, (bd.add (j * 8)).off + 6, none⟩ = some (.slice z.m.pA z.m.pa.length z.m.pC) ∧ W'.cell? ⟨(bd.add (j * 8)).block, (bd.add (j * 8)).off + 7, none⟩ = some (.int .i64 y.first)) → (Below wr.heap.size wr (W'.setCell ⟨bX, oX, none⟩ vX) ∧ (W'.setCell ⟨bX, oX, none⟩ vX).cell? (ad.add (j * 8)) = some (.string y.m.name) ∧ (W'.setCell ⟨bX, oX, none⟩ vX).cell? ⟨(ad.add (j * 8)).block, (ad.add (j * 8)).off + 1, none⟩ = some (.int .i64 y.m.major) ∧ (W'.setCell ⟨bX, oX, none⟩ vX).cell? ⟨(ad.add (j * 8)).block, (ad.add (j * 8)).off + 2, none⟩ = some (.int .i64 y.m.minor) ∧ (W'.setCell ⟨bX, oX, none⟩ vX).cell? ⟨(ad.add (j * 8)).block, (ad.add (j * 8)).off + 3, none⟩ = some (.string y.m.text) ∧ (W'.setCell ⟨bX, oX, none⟩ vX).cell? ⟨(ad.add (j * 8)).block, (ad.add (j * 8)).off + 4, none⟩ = some (.slice y.m.eA y.m.ex.length y.m.eC) ∧ (W'.setCell ⟨bX, oX, none⟩ vX).cell? ⟨(ad.add (j * 8)).block, (ad.add (j * 8)).off + 5, none⟩ = some (.slice y.m.iA y.m.im.length y.m.iC) ∧ (W'.setCell ⟨bX, oX, none⟩ vX).cell? ⟨(ad.add (j * 8)).block, (ad.add (j * 8)).off + 6, none⟩ = some (.slice y.m.pA y.m.pa.length y.m.pC) ∧ (W'.setCell ⟨bX, oX, none⟩ vX).cell? ⟨(ad.add (j * 8)).block, (ad.add (j * 8)).off + 7, none⟩ = some (.int .i64 y.first) ∧ (W'.setCell ⟨bX, oX, none⟩ vX).cell? (bd.add (j * 8)) = some (.string z.m.name) ∧ (W'.setCell ⟨bX, oX, none⟩ vX).cell? ⟨(bd.add (j * 8)).block, (bd.add (j * 8)).off + 1, none⟩ = some (.int .i64 z.m.major) ∧ (W'.setCell ⟨bX, oX, none⟩ vX).cell? ⟨(bd.add (j * 8)).block, (bd.add (j * 8)).off + 2, none⟩ = some (.int .i64 z.m.minor) ∧ (W'.setCell ⟨bX, oX, none⟩ vX).cell? ⟨(bd.add (j * 8)).block, (bd.add (j * 8)).off + 3, none⟩ = some (.string z.m.text) ∧ (W'.setCell ⟨bX, oX, none⟩ vX).cell? ⟨(bd.add (j * 8)).block, (bd.add (j * 8)).off + 4, none⟩ = some (.slice z.m.eA z.m.ex.length z.m.eC) ∧ (W'.setCell ⟨bX, oX, none⟩ vX).cell? ⟨(bd.add (j * 8)).block, (bd.add (j * 8)).off + 5, none⟩ = some (.slice z.m.iA z.m.im.length z.m.iC) ∧ (W'.setCell ⟨bX, oX, none⟩ vX).cell? ⟨(bd.add (j * 8)).block, (bd.add (j * 8)).off + 6, none⟩ = some (.slice z.m.pA z.m.pa.length z.m.pC) ∧ (W'.setCell ⟨bX, oX, none⟩ vX).cell? ⟨(bd.add (j * 8)).block, (bd.add (j * 8)).off + 7, none⟩ = some (.int .i64 y.first)) from fun W' bX oX vX hbX ⟨b, a0, a1, a2, a3, a4, a5, a6, a7, a8, a9, a10, a11, a12, a13, a14, a15⟩ => ⟨b.setCell (p := ⟨bX, oX, none⟩) hbX vX, (((Below.refl _ _).setCell (p := ⟨bX, oX, none⟩) hbX vX).cell (by first | omega | (simp; omega) | (simp only [block_of_add]; omega))).trans a0, (((Below.refl _ _).setCell (p := ⟨bX, oX, none⟩) hbX vX).cell (by first | omega | (simp; omega) | (simp only [block_of_add]; omega))).trans a1, (((Below.refl _ _).setCell (p := ⟨bX, oX, none⟩) hbX vX).cell (by first | omega | (simp; omega) | (simp only [block_of_add]; omega))).trans a2, (((Below.refl _ _).setCell (p := ⟨bX, oX, none⟩) hbX vX).cell (by first | omega | (simp; omega) | (simp only [block_of_add]; omega))).trans a3, (((Below.refl _ _).setCell (p := ⟨bX, oX, none⟩) hbX vX).cell (by first | omega | (simp; omega) | (simp only [block_of_add]; omega))).trans a4, (((Below.refl _ _).setCell (p := ⟨bX, oX, none⟩) hbX vX).cell (by first | omega | (simp; omega) | (simp only [block_of_add]; omega))).trans a5, (((Below.refl _ _).setCell (p := ⟨bX, oX, none⟩) hbX vX).cell (by first | omega | (simp; omega) | (simp only [block_of_add]; omega))).trans a6, (((Below.refl _ _).setCell (p := ⟨bX, oX, none⟩) hbX vX).cell (by first | omega | (simp; omega) | (simp only [block_of_add]; omega))).trans a7, (((Below.refl _ _).setCell (p := ⟨bX, oX, none⟩) hbX vX).cell (by first | omega | (simp; omega) | (simp only [block_of_add]; omega))).trans a8, (((Below.refl _ _).setCell (p := ⟨bX, oX, none⟩) hbX vX).cell (by first | omega | (simp; omega) | (simp only [block_of_add]; omega))).trans a9, (((Below.refl _ _).setCell (p := ⟨bX, oX, none⟩) hbX vX).cell (by first | omega | (simp; omega) | (simp only [block_of_add]; omega))).trans a10, (((Below.refl _ _).setCell (p := ⟨bX, oX, none⟩) hbX vX).cell (by first | omega | (simp; omega) | (simp only [block_of_add]; omega))).trans a11, (((Below.refl _ _).setCell (p := ⟨bX, oX, none⟩) hbX vX).cell (by first | omega | (simp; omega) | (simp only [block_of_add]; omega))).trans a12, (((Below.refl _ _).setCell (p := ⟨bX, oX, none⟩) hbX vX).cell (by first | omega | (simp; omega) | (simp only [block_of_add]; omega))).trans a13, (((Below.refl _ _).setCell (p := ⟨bX, oX, none⟩) hbX vX).cell (by first | omega | (simp; omega) | (simp only [block_of_add]; omega))).trans a14, (((Below.refl _ _).setCell (p := ⟨bX, oX, none⟩) hbX vX).cell (by first | omega | (simp; omega) | (simp only [block_of_add]; omega))).trans a15⟩)
      have HCL := Lib.hid (show ∀ W' : World, (Below wr.heap.size wr W' ∧ W'.cell? (ad.add (j * 8)) = some (.string y.m.name) ∧ W'.cell? ⟨(ad.add (j * 8)).block, (ad.add (j * 8)).off + 1, none⟩ = some (.int .i64 y.m.major) ∧ W'.cell? ⟨(ad.add (j * 8)).block, (ad.add (j * 8)).off + 2, none⟩ = some (.int .i64 y.m.minor) ∧ W'.cell? ⟨(ad.add (j * 8)).block, (ad.add (j * 8)).off + 3, none⟩ = some (.string y.m.text) ∧ W'.cell? ⟨(ad.add (j * 8)).block, (ad.add (j * 8)).off + 4, none⟩ = some (.slice y.m.eA y.m.ex.length y.m.eC) ∧ W'.cell? ⟨(ad.add (j * 8)).block, (ad.add (j * 8)).off + 5, none⟩ = some (.slice y.m.iA y.m.im.length y.m.iC) ∧ W'.cell? ⟨(ad.add (j * 8)).block, (ad.add (j * 8)).off + 6, none⟩ = some (.slice y.m.pA y.m.pa.length y.m.pC) ∧ W'.cell? ⟨(ad.add (j * 8)).block, (ad.add (j * 8)).off + 7, none⟩ = some (.int .i64 y.first) ∧ W'.cell? (bd.add (j * 8)) = some (.string z.m.name) ∧ W'.cell? ⟨(bd.add (j * 8)).block, (bd.add (j * 8)).off + 1, none⟩ = some (.int .i64 z.m.major) ∧ W'.cell? ⟨(bd.add (j * 8)).block, (bd.add (j * 8)).off + 2, none⟩ = some (.int .i64 z.m.minor) ∧ W'.cell? ⟨(bd.add (j * 8)).block, (bd.add (j * 8)).off + 3, none⟩ = some (.string z.m.text) ∧ W'.cell? ⟨(bd.add (j * 8)).block, (bd.add (j * 8)).off + 4, none⟩ = some (.slice z.m.eA z.m.ex.length z.m.eC) ∧ W'.cell? ⟨(bd.add (j * 8)).block, (bd.add (j * 8)).off + 5, none⟩ = some (.slice z.m.iA z.m.im.length z.m.iC) ∧ W'.cell? ⟨(bd.add (j * 8)).block, (bd.add (j * 8)).off + 6, none⟩ = some (.slice z.m.pA z.m.pa.length z.m.pC) ∧ W'.cell? ⟨(bd.add (j * 8)).block, (bd.add (j * 8)).off + 7, none⟩ = some (.int .i64 y.first)) → Below wr.heap.size wr W' from fun W' hc => hc.1)
      go_wp2_with fail
      go_region_held3 (fun W' => Below wr.heap.size wr W' ∧ W'.cell? (ad.add (j * 8)) = some (.string y.m.name) ∧ W'.cell? ⟨(ad.add (j * 8)).block, (ad.add (j * 8)).off + 1, none⟩ = some (.int .i64 y.m.major) ∧ W'.cell? ⟨(ad.add (j * 8)).block, (ad.add (j * 8)).off + 2, none⟩ = some (.int .i64 y.m.minor) ∧ W'.cell? ⟨(ad.add (j * 8)).block, (ad.add (j * 8)).off + 3, none⟩ = some (.string y.m.text) ∧ W'.cell? ⟨(ad.add (j * 8)).block, (ad.add (j * 8)).off + 4, none⟩ = some (.slice y.m.eA y.m.ex.length y.m.eC) ∧ W'.cell? ⟨(ad.add (j * 8)).block, (ad.add (j * 8)).off + 5, none⟩ = some (.slice y.m.iA y.m.im.length y.m.iC) ∧ W'.cell? ⟨(ad.add (j * 8)).block, (ad.add (j * 8)).off + 6, none⟩ = some (.slice y.m.pA y.m.pa.length y.m.pC) ∧ W'.cell? ⟨(ad.add (j * 8)).block, (ad.add (j * 8)).off + 7, none⟩ = some (.int .i64 y.first) ∧ W'.cell? (bd.add (j * 8)) = some (.string z.m.name) ∧ W'.cell? ⟨(bd.add (j * 8)).block, (bd.add (j * 8)).off + 1, none⟩ = some (.int .i64 z.m.major) ∧ W'.cell? ⟨(bd.add (j * 8)).block, (bd.add (j * 8)).off + 2, none⟩ = some (.int .i64 z.m.minor) ∧ W'.cell? ⟨(bd.add (j * 8)).block, (bd.add (j * 8)).off + 3, none⟩ = some (.string z.m.text) ∧ W'.cell? ⟨(bd.add (j * 8)).block, (bd.add (j * 8)).off + 4, none⟩ = some (.slice z.m.eA z.m.ex.length z.m.eC) ∧ W'.cell? ⟨(bd.add (j * 8)).block, (bd.add (j * 8)).off + 5, none⟩ = some (.slice z.m.iA z.m.im.length z.m.iC) ∧ W'.cell? ⟨(bd.add (j * 8)).block, (bd.add (j * 8)).off + 6, none⟩ = some (.slice z.m.pA z.m.pa.length z.m.pC) ∧ W'.cell? ⟨(bd.add (j * 8)).block, (bd.add (j * 8)).off + 7, none⟩ = some (.int .i64 y.first)) (first | exact HC0.out | exact HCD.out _ HC0.out | exact HCS.out _ _ (by assumption) (by assumption) | exact HCS.out _ _ HC0.out (by assumption) | exact HCS.out _ _ (HCD.out _ HC0.out) (by assumption) | exact HCS.out _ _ (HCD.out _ (by assumption)) (by assumption) | exact HCD.out _ (by assumption) | exact HCA.out _ _ (by assumption) | exact HCA.out _ _ HC0.out | exact HCA.out _ _ (HCD.out _ HC0.out) | exact HCD.out _ (HCA.out _ _ (by assumption)) | exact HCA.out _ _ (HCS.out _ _ HC0.out (by assumption)) | exact HCA.out _ _ (HCS.out _ _ (HCD.out _ HC0.out) (by assumption)) | exact HCX.out _ _ _ _ (Nat.le_refl _) (by assumption) | exact HCX.out _ _ _ _ (Nat.le_refl _) (HCS.out _ _ (HCA.out _ _ HC0.out) (by assumption)) | exact HCX.out _ _ _ _ (Nat.le_refl _) (HCS.out _ _ (HCD.out _ (HCA.out _ _ HC0.out)) (by assumption)) | assumption) (first | (go_at_call 51; (with_reducible refine (cS.out _ (HB.out.trans ((HCL.out _ (by assumption)).mono HB.out.size))).mono ?_); rintro e w5 ⟨rfl, hb5⟩))
      have HB5 := Lib.hid (HB.out.trans ((HCL.out _ (by assumption)).mono HB.out.size))
      go_wp2_with fail
      go_roundw
      case rel => exact ⟨j + 1, by omega, by go_num, HB5.out⟩
      case measure => (simp [intOf]; try omega)
    · go_wp2_with fail
      go_ret
      exact ⟨rfl, HB.out⟩

set_option maxHeartbeats 4000000 in
set_option maxRecDepth 100000 in
theorem SameRegistry_any (k k' : Krn) (A A' : Option Addr) (c c' : Nat) (l l' : List Plc) (w : World) (hk : k.ok w) (h : PlsOk w A l) (hk' : k'.ok w) (h' : PlsOk w A' l') (hs : k.bare = k'.bare) (hl : bares l = bares l') :
    Calls Tryz.prog 22 #[rgV k A l c, rgV k' A' l' c'] w fun e w' => e = .returned (.bool true) ∧ Below w.heap.size w w' := by
  obtain ⟨mj, mn, ex, eA, eC⟩ := k
  obtain ⟨mj', mn', ex', eA', eC'⟩ := k'
  unfold Krn.bare at hs
  injection hs with h1 h2 h3
  subst h1 h2 h3
  obtain ⟨w0, hw0⟩ : ∃ w0, w0 = w.alloc (.cells #[.int .i64 mj, .int .i64 mn, .slice eA ex.length eC, .slice A l.length c] 39) := ⟨_, rfl⟩
  obtain ⟨g0, g1, g2, g3, hz0, hb0⟩ := box4 hw0
  obtain ⟨x0, hx0⟩ : ∃ x0, x0 = w0.alloc (.cells #[.int .i64 mj, .int .i64 mn, .slice eA' ex.length eC', .slice A' l'.length c'] 39) := ⟨_, rfl⟩
  obtain ⟨f0, f1, f2, f3, hzx, hbx⟩ := box4 hx0
  rw [hz0] at f0 f1 f2 f3
  have k0 := (hbx.cell (p := ⟨w.heap.size, 0, none⟩) (by simp; omega)).trans g0
  have k1 := (hbx.cell (p := ⟨w.heap.size, 1, none⟩) (by simp; omega)).trans g1
  have k2 := (hbx.cell (p := ⟨w.heap.size, 2, none⟩) (by simp; omega)).trans g2
  have k3 := (hbx.cell (p := ⟨w.heap.size, 3, none⟩) (by simp; omega)).trans g3
  have HX := Lib.hid (hb0.trans (hbx.mono hb0.size))
  have hz1 : w.heap.size < x0.heap.size := by omega
  have hz2 : w.heap.size + 1 < x0.heap.size := by omega
  have c1 := Lib.hid (fun W (hb : Below w.heap.size w W) => SameExports_any eA eA' eC eC' ex W ((hk.below hb).ex.1) ((hk'.below hb).ex.1) hk.ex.2.1)
  have c2 := Lib.hid (fun W (hb : Below w.heap.size w W) => SamePlaced_any A A' c c' l l' W (h.below hb) (h'.below hb) hl)
  have hw0' := hw0.symm
  have hx0' := hx0.symm
  clear hw0 hx0 hb0 hbx hk h hk' h' hl hzx g0 g1 g2 g3
  go_enter Tryz.func22, Tryz.ntmps22
  go_wp2_with fail
  refine (c1.out _ HX.out).mono ?_; rintro e w1 ⟨rfl, hb1⟩
  have m3 := (hb1.cell (p := ⟨w.heap.size, 3, none⟩) hz1).trans k3
  have n3 := (hb1.cell (p := ⟨w.heap.size + 1, 3, none⟩) hz2).trans f3
  have HB1 := Lib.hid (HX.out.trans (hb1.mono HX.out.size))
  clear hb1 k0 k1 k2 k3 f0 f1 f2 f3
  go_wp2_with fail
  refine (c2.out _ HB1.out).mono ?_; rintro e w2 ⟨rfl, hb2⟩
  have HB2 := Lib.hid (HB1.out.trans (hb2.mono HB1.out.size))
  clear hb2
  go_wp2_with fail
  go_ret
  exact ⟨by simp, HB2.out⟩

set_option maxHeartbeats 4000000 in
set_option maxRecDepth 100000 in
theorem registryIs_any (E : Int) (k k' : Krn) (A A' : Option Addr) (c c' : Nat) (l l' : List Plc) (w : World) (hk : k.ok w) (h : PlsOk w A l) (hk' : k'.ok w) (h' : PlsOk w A' l') (hs : E = 0 → k.bare = k'.bare ∧ bares l = bares l') (hn : E ≠ 0 → k.bare = noKrn ∧ l = []) :
    Calls Tryz.prog 43 #[rgV k A l c, .int .i64 E, .int .i64 E, rgV k' A' l' c'] w fun e w' => e = .returned (.bool true) ∧ Below w.heap.size w w' := by
  obtain ⟨w0, hw0⟩ : ∃ w0, w0 = w.alloc (.cells #[.int .i64 k.major, .int .i64 k.minor, .slice k.eA k.ex.length k.eC, .slice A l.length c] 39) := ⟨_, rfl⟩
  obtain ⟨g0, g1, g2, g3, hz0, hb0⟩ := box4 hw0
  obtain ⟨x0, hx0⟩ : ∃ x0, x0 = w0.alloc (.cells #[.int .i64 k'.major, .int .i64 k'.minor, .slice k'.eA k'.ex.length k'.eC, .slice A' l'.length c'] 39) := ⟨_, rfl⟩
  obtain ⟨f0, f1, f2, f3, hzx, hbx⟩ := box4 hx0
  rw [hz0] at f0 f1 f2 f3
  have k0 := (hbx.cell (p := ⟨w.heap.size, 0, none⟩) (by simp; omega)).trans g0
  have k1 := (hbx.cell (p := ⟨w.heap.size, 1, none⟩) (by simp; omega)).trans g1
  have k2 := (hbx.cell (p := ⟨w.heap.size, 2, none⟩) (by simp; omega)).trans g2
  have k3 := (hbx.cell (p := ⟨w.heap.size, 3, none⟩) (by simp; omega)).trans g3
  have HX := Lib.hid (hb0.trans (hbx.mono hb0.size))
  have hw0' := hw0.symm
  by_cases t : E = 0
  · obtain ⟨e1, e2⟩ := hs t
    have c1 := Lib.hid (fun W (hb : Below w.heap.size w W) => SameRegistry_any k k' A A' c c' l l' W (hk.below hb) (h.below hb) (hk'.below hb) (h'.below hb) e1 e2)
    have hx0' := hx0.symm
    subst t
    clear hw0 hx0 hb0 hbx hk h hk' h' hzx g0 g1 g2 g3 hs hn e1 e2
    go_enter Tryz.func43, Tryz.ntmps43
    go_wp2_with fail
    refine (c1.out _ HX.out).mono ?_; rintro e w1 ⟨rfl, hb1⟩
    have HB1 := Lib.hid (HX.out.trans (hb1.mono HX.out.size))
    clear hb1
    go_wp2_with fail
    go_ret
    exact ⟨by simp, HB1.out⟩
  · obtain ⟨e1, rfl⟩ := hn t
    have t' : (E != 0) = true := by simp [t]
    obtain ⟨z0, hz⟩ : ∃ z0, z0 = w0.alloc (.cells #[.int .i64 0, .int .i64 0, .slice none 0 0, .slice none 0 0] 39) := ⟨_, rfl⟩
    obtain ⟨n0, n1, n2, n3, hzz, hbz⟩ := box4 hz
    have HZ := Lib.hid (hb0.trans (hbz.mono hb0.size))
    rw [hz0] at n0 n1 n2 n3
    have z0' := (hbz.cell (p := ⟨w.heap.size, 0, none⟩) (by simp; omega)).trans g0
    have z1' := (hbz.cell (p := ⟨w.heap.size, 1, none⟩) (by simp; omega)).trans g1
    have z2' := (hbz.cell (p := ⟨w.heap.size, 2, none⟩) (by simp; omega)).trans g2
    have z3' := (hbz.cell (p := ⟨w.heap.size, 3, none⟩) (by simp; omega)).trans g3
    simp only [List.length_nil] at z3'
    have c1 := Lib.hid (show ∀ W, Below w.heap.size w W → Calls Tryz.prog 22 #[rgV k A [] c, .agg #[.int .i64 0, .int .i64 0, .slice none 0 0, .slice none 0 0]] W fun e w' => e = .returned (.bool true) ∧ Below W.heap.size W w' from
      fun W hb => SameRegistry_any k noKrn A none c 0 [] [] W (hk.below hb) (h.below hb) (noKrn_ok W) ⟨Row.nil, Nat.zero_le _, by simp⟩ e1 rfl)
    have hz' := hz.symm
    have hx0' := Lib.hid hx0.symm
    clear hw0 hx0 hb0 hbx hk h hk' h' hzx g0 g1 g2 g3 hs hn e1 f0 f1 f2 f3 k0 k1 k2 k3 HX hz hbz t
    simp only [List.length_nil] at hw0'
    go_enter Tryz.func43, Tryz.ntmps43
    go_wp2_with fail
    refine (c1.out _ HZ.out).mono ?_; rintro e w1 ⟨rfl, hb1⟩
    have HB1 := Lib.hid (HZ.out.trans (hb1.mono HZ.out.size))
    clear hb1
    go_wp2_with fail
    go_ret
    exact ⟨by simp, HB1.out⟩

end Go.Proofs.YtjiedaialianmaaGreat
end

section

namespace Go.Proofs.YtjiedaialianmaaGreat
open Go.RowKit Go.Lib

/-- what the document's packing keeps -/
structure RPackInv (w : World) (k : Krn) (A : Option Addr) (c : Nat) (l : List Plc) (q : Nat) (A1 : Option Addr) (L : List Plc) (c1 : Nat) (W : World) : Prop where
  heap : W.heap[w.heap.size]? = some (.cells #[.int .i64 k.major, .int .i64 k.minor, .slice k.eA k.ex.length k.eC, .slice A1 L.length c1] 39 (0, 0))
  res : W.heap[w.heap.size + 1]? = some (.cells #[.int .i64 0, .int .i64 0, .slice none 0 0, .slice none 0 0] 39 (0, 0))
  ok : PlsOk W A1 L
  r16 : Row16 0 L
  same : L.map (·.m) = l.map (·.m)
  pack : packL 0 l = ((packL 0 L).1, (packL 0 L).2 + q)
  bel : Below w.heap.size w W
  own : (A1 = A ∧ c1 = c ∧ L = l) ∨ PlcOwn W w.heap.size (.slice A1 L.length c1) L

end Go.Proofs.YtjiedaialianmaaGreat
end

section

namespace Go.Proofs.YtjiedaialianmaaGreat
open Go.RowKit Go.Lib

theorem RgIs.okAll {W W0 : World} {base : Nat} {k K : Krn} {A A0 : Option Addr} {l L L0 : List Plc} {c : Nat} (h : RgIs W base k A l c K L) (hK : K.ok W0) (hL : PlsOk W0 A0 L0) (hm : L.map (·.m) = L0.map (·.m)) : k.ok W ∧ PlsOk W A l := by
  refine ⟨h.own.okK h.kern hK, h.own.mods.ok rfl ?_ hL⟩
  have e1 : l.map (fun x => x.m.bare) = (bares l).map (·.m) := by rw [List.map_map]; rfl
  have e2 : L0.map (fun x => x.m.bare) = (L0.map (·.m)).map Mod.bare := by rw [List.map_map]; rfl
  rw [e1, h.mods, e2, ← hm, List.map_map, List.map_map]; rfl
section
variable (a1 a2 a3 b1 b2 b3 : Option Addr) (a4 a5 a6 b4 b5 b6 : Nat)
end

end Go.Proofs.YtjiedaialianmaaGreat
end
