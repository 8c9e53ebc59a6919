import Derived.Test.YtogckcjcebckgaaGreatG09
import Derived.Test.YtogckcjcebckgaaGreatG08
import Derived.Deep.RegionWith
section
/- Blocks of eight and of four cells written anew. Printed by genSet.py. -/
namespace Go.Proofs.YtogckcjcebckgaaGreat
open Go.RowKit

theorem set8 {W : World} {b : Nat} {c0 c1 c2 c3 c4 c5 c6 c7 : Value} {t : TypeId} (h : W.heap[b]? = some (.cells #[c0, c1, c2, c3, c4, c5, c6, c7] t (0, 0))) (x0 x1 x2 x3 x4 x5 x6 x7 : Value) :
    ((((((((W.setCell ⟨b, 0, none⟩ x0).setCell ⟨b, 1, none⟩ x1).setCell ⟨b, 2, none⟩ x2).setCell ⟨b, 3, none⟩ x3).setCell ⟨b, 4, none⟩ x4).setCell ⟨b, 5, none⟩ x5).setCell ⟨b, 6, none⟩ x6).setCell ⟨b, 7, none⟩ x7).heap[b]? = some (.cells #[x0, x1, x2, x3, x4, x5, x6, x7] t (0, 0)) ∧ Only b W ((((((((W.setCell ⟨b, 0, none⟩ x0).setCell ⟨b, 1, none⟩ x1).setCell ⟨b, 2, none⟩ x2).setCell ⟨b, 3, none⟩ x3).setCell ⟨b, 4, none⟩ x4).setCell ⟨b, 5, none⟩ x5).setCell ⟨b, 6, none⟩ x6).setCell ⟨b, 7, none⟩ x7) := by
  have h1 : (W.setCell ⟨b, 0, none⟩ x0).heap[b]? = some (.cells #[x0, c1, c2, c3, c4, c5, c6, c7] t (0, 0)) := heap_setCell_same W b 0 _ _ x0 h
  have h2 : ((W.setCell ⟨b, 0, none⟩ x0).setCell ⟨b, 1, none⟩ x1).heap[b]? = some (.cells #[x0, x1, c2, c3, c4, c5, c6, c7] t (0, 0)) := heap_setCell_same (W.setCell ⟨b, 0, none⟩ x0) b 1 _ _ x1 h1
  have h3 : (((W.setCell ⟨b, 0, none⟩ x0).setCell ⟨b, 1, none⟩ x1).setCell ⟨b, 2, none⟩ x2).heap[b]? = some (.cells #[x0, x1, x2, c3, c4, c5, c6, c7] t (0, 0)) := heap_setCell_same ((W.setCell ⟨b, 0, none⟩ x0).setCell ⟨b, 1, none⟩ x1) b 2 _ _ x2 h2
  have h4 : ((((W.setCell ⟨b, 0, none⟩ x0).setCell ⟨b, 1, none⟩ x1).setCell ⟨b, 2, none⟩ x2).setCell ⟨b, 3, none⟩ x3).heap[b]? = some (.cells #[x0, x1, x2, x3, c4, c5, c6, c7] t (0, 0)) := heap_setCell_same (((W.setCell ⟨b, 0, none⟩ x0).setCell ⟨b, 1, none⟩ x1).setCell ⟨b, 2, none⟩ x2) b 3 _ _ x3 h3
  have h5 : (((((W.setCell ⟨b, 0, none⟩ x0).setCell ⟨b, 1, none⟩ x1).setCell ⟨b, 2, none⟩ x2).setCell ⟨b, 3, none⟩ x3).setCell ⟨b, 4, none⟩ x4).heap[b]? = some (.cells #[x0, x1, x2, x3, x4, c5, c6, c7] t (0, 0)) := heap_setCell_same ((((W.setCell ⟨b, 0, none⟩ x0).setCell ⟨b, 1, none⟩ x1).setCell ⟨b, 2, none⟩ x2).setCell ⟨b, 3, none⟩ x3) b 4 _ _ x4 h4
  have h6 : ((((((W.setCell ⟨b, 0, none⟩ x0).setCell ⟨b, 1, none⟩ x1).setCell ⟨b, 2, none⟩ x2).setCell ⟨b, 3, none⟩ x3).setCell ⟨b, 4, none⟩ x4).setCell ⟨b, 5, none⟩ x5).heap[b]? = some (.cells #[x0, x1, x2, x3, x4, x5, c6, c7] t (0, 0)) := heap_setCell_same (((((W.setCell ⟨b, 0, none⟩ x0).setCell ⟨b, 1, none⟩ x1).setCell ⟨b, 2, none⟩ x2).setCell ⟨b, 3, none⟩ x3).setCell ⟨b, 4, none⟩ x4) b 5 _ _ x5 h5
  have h7 : (((((((W.setCell ⟨b, 0, none⟩ x0).setCell ⟨b, 1, none⟩ x1).setCell ⟨b, 2, none⟩ x2).setCell ⟨b, 3, none⟩ x3).setCell ⟨b, 4, none⟩ x4).setCell ⟨b, 5, none⟩ x5).setCell ⟨b, 6, none⟩ x6).heap[b]? = some (.cells #[x0, x1, x2, x3, x4, x5, x6, c7] t (0, 0)) := heap_setCell_same ((((((W.setCell ⟨b, 0, none⟩ x0).setCell ⟨b, 1, none⟩ x1).setCell ⟨b, 2, none⟩ x2).setCell ⟨b, 3, none⟩ x3).setCell ⟨b, 4, none⟩ x4).setCell ⟨b, 5, none⟩ x5) b 6 _ _ x6 h6
  have h8 : ((((((((W.setCell ⟨b, 0, none⟩ x0).setCell ⟨b, 1, none⟩ x1).setCell ⟨b, 2, none⟩ x2).setCell ⟨b, 3, none⟩ x3).setCell ⟨b, 4, none⟩ x4).setCell ⟨b, 5, none⟩ x5).setCell ⟨b, 6, none⟩ x6).setCell ⟨b, 7, none⟩ x7).heap[b]? = some (.cells #[x0, x1, x2, x3, x4, x5, x6, x7] t (0, 0)) := heap_setCell_same (((((((W.setCell ⟨b, 0, none⟩ x0).setCell ⟨b, 1, none⟩ x1).setCell ⟨b, 2, none⟩ x2).setCell ⟨b, 3, none⟩ x3).setCell ⟨b, 4, none⟩ x4).setCell ⟨b, 5, none⟩ x5).setCell ⟨b, 6, none⟩ x6) b 7 _ _ x7 h7
  exact ⟨h8, ((((((((Only.set 0 x0).trans (Only.set 1 x1)).trans (Only.set 2 x2)).trans (Only.set 3 x3)).trans (Only.set 4 x4)).trans (Only.set 5 x5)).trans (Only.set 6 x6)).trans (Only.set 7 x7))⟩
theorem set4 {W : World} {b : Nat} {c0 c1 c2 c3 : Value} {t : TypeId} (h : W.heap[b]? = some (.cells #[c0, c1, c2, c3] t (0, 0))) (x0 x1 x2 x3 : Value) :
    ((((W.setCell ⟨b, 0, none⟩ x0).setCell ⟨b, 1, none⟩ x1).setCell ⟨b, 2, none⟩ x2).setCell ⟨b, 3, none⟩ x3).heap[b]? = some (.cells #[x0, x1, x2, x3] t (0, 0)) ∧ Only b W ((((W.setCell ⟨b, 0, none⟩ x0).setCell ⟨b, 1, none⟩ x1).setCell ⟨b, 2, none⟩ x2).setCell ⟨b, 3, none⟩ x3) := by
  have h1 : (W.setCell ⟨b, 0, none⟩ x0).heap[b]? = some (.cells #[x0, c1, c2, c3] t (0, 0)) := heap_setCell_same W b 0 _ _ x0 h
  have h2 : ((W.setCell ⟨b, 0, none⟩ x0).setCell ⟨b, 1, none⟩ x1).heap[b]? = some (.cells #[x0, x1, c2, c3] t (0, 0)) := heap_setCell_same (W.setCell ⟨b, 0, none⟩ x0) b 1 _ _ x1 h1
  have h3 : (((W.setCell ⟨b, 0, none⟩ x0).setCell ⟨b, 1, none⟩ x1).setCell ⟨b, 2, none⟩ x2).heap[b]? = some (.cells #[x0, x1, x2, c3] t (0, 0)) := heap_setCell_same ((W.setCell ⟨b, 0, none⟩ x0).setCell ⟨b, 1, none⟩ x1) b 2 _ _ x2 h2
  have h4 : ((((W.setCell ⟨b, 0, none⟩ x0).setCell ⟨b, 1, none⟩ x1).setCell ⟨b, 2, none⟩ x2).setCell ⟨b, 3, none⟩ x3).heap[b]? = some (.cells #[x0, x1, x2, x3] t (0, 0)) := heap_setCell_same (((W.setCell ⟨b, 0, none⟩ x0).setCell ⟨b, 1, none⟩ x1).setCell ⟨b, 2, none⟩ x2) b 3 _ _ x3 h3
  exact ⟨h4, ((((Only.set 0 x0).trans (Only.set 1 x1)).trans (Only.set 2 x2)).trans (Only.set 3 x3))⟩

end Go.Proofs.YtogckcjcebckgaaGreat
end

section
/- Registries (chapter H): registry.Find. -/
namespace Go.Proofs.YtogckcjcebckgaaGreat
open Go.RowKit Go.Lib

theorem Tryz.sizePlc : (Tryz.prog.info? 77).map (·.size) = some 8 := by kernel_rfl
def noMod : Mod := ⟨⟨#[]⟩, 0, 0, ⟨#[]⟩, [], [], [], none, 0, none, 0, none, 0⟩
def noPlc : Plc := ⟨noMod, 0⟩
theorem noMod_ok (W : World) : noMod.ok W := ⟨⟨Row.nil, Nat.zero_le _, by simp [noMod]⟩, ⟨Row.nil, Nat.zero_le _, by simp [noMod]⟩, ⟨Row.nil, Nat.zero_le _⟩, Nat.zero_le _, Nat.zero_le _⟩
def fndErr (k : Krn) (l : List Plc) (nm : ByteArray) : Int := if rgErr k l ≠ 0 then rgErr k l else if idxOf (named nm) l < 0 then 5 else 0
/-- what is found: nothing, or a copy -/
def FoundIs (k : Krn) (l : List Plc) (nm : ByteArray) (W : World) (base : Nat) (X : Plc) : Prop :=
  (fndErr k l nm ≠ 0 → X = noPlc) ∧ (fndErr k l nm = 0 → ∀ j (hj : j < l.length), idxOf (named nm) l = j → X.first = l[j].first ∧ SameC X.m l[j].m ∧ X.m.own W base) ∧ X.m.ok W
theorem mod_small {m : Mod} (h : modErr m = 0) : m.ex.length ≤ 1000000 ∧ m.im.length ≤ 1000000 ∧ m.pa.length ≤ 1000000 := by
  have q := modErr_facts h
  exact ⟨Nat.le_trans q.2.2.2.2.2.1 (by omega), Nat.le_trans q.2.2.2.2.2.2.1 (by omega), Nat.le_trans q.2.2.2.2.2.2.2.1 (by omega)⟩
theorem pcells {W : World} {b : Nat} {v0 v1 v2 v3 v4 v5 v6 v7 : Value} {t : TypeId} (h : W.heap[b]? = some (.cells #[v0, v1, v2, v3, v4, v5, v6, v7] t (0, 0))) :
    (W.cell? ⟨b, 0, none⟩ = some v0 ∧ W.cell? ⟨b, 1, none⟩ = some v1 ∧ W.cell? ⟨b, 2, none⟩ = some v2 ∧ W.cell? ⟨b, 3, none⟩ = some v3 ∧ W.cell? ⟨b, 4, none⟩ = some v4 ∧ W.cell? ⟨b, 5, none⟩ = some v5 ∧ W.cell? ⟨b, 6, none⟩ = some v6 ∧ W.cell? ⟨b, 7, none⟩ = some v7) ∧
    (W.frozen? ⟨b, 0, none⟩ = false ∧ W.frozen? ⟨b, 1, none⟩ = false ∧ W.frozen? ⟨b, 2, none⟩ = false ∧ W.frozen? ⟨b, 3, none⟩ = false ∧ W.frozen? ⟨b, 4, none⟩ = false ∧ W.frozen? ⟨b, 5, none⟩ = false ∧ W.frozen? ⟨b, 6, none⟩ = false ∧ W.frozen? ⟨b, 7, none⟩ = false) :=
  ⟨⟨heap_cell h 0, heap_cell h 1, heap_cell h 2, heap_cell h 3, heap_cell h 4, heap_cell h 5, heap_cell h 6, heap_cell h 7⟩, heap_free h 0, heap_free h 1, heap_free h 2, heap_free h 3, heap_free h 4, heap_free h 5, heap_free h 6, heap_free h 7⟩

set_option maxHeartbeats 8000000 in
set_option maxRecDepth 100000 in
theorem RFind_any (k : Krn) (A : Option Addr) (c : Nat) (l : List Plc) (nm : ByteArray) (w : World) (hk : k.ok w) (h : PlsOk w A l) :
    Calls Tryz.prog 64 #[rgV k A l c, .string nm] w fun e w' => (∃ X : Plc, e = .returned (.tuple #[X.v, .int .i64 (fndErr k l nm)]) ∧ FoundIs k l nm w' w.heap.size X) ∧ Below w.heap.size w w' := by
  obtain ⟨w0, hw0⟩ : ∃ w0, w0 = w.alloc (.cells #[.int .i64 k.major, .int .i64 k.minor, .slice k.eA k.ex.length k.eC, .slice A l.length c] 39) := ⟨_, rfl⟩
  obtain ⟨g0, g1, g2, g3, hz0, hb0⟩ := box4 hw0
  obtain ⟨x0, hx0⟩ : ∃ x0, x0 = w0.alloc (.cells #[.string ⟨#[]⟩, .int .i64 0, .int .i64 0, .string ⟨#[]⟩, .slice none 0 0, .slice none 0 0, .slice none 0 0, .int .i64 0] 77) := ⟨_, rfl⟩
  have hR : x0.heap[w.heap.size + 1]? = some (.cells #[.string ⟨#[]⟩, .int .i64 0, .int .i64 0, .string ⟨#[]⟩, .slice none 0 0, .slice none 0 0, .slice none 0 0, .int .i64 0] 77 (0, 0)) := by rw [hx0, ← hz0]; exact heap_alloc_new w0 _
  have hbx : Below w0.heap.size w0 x0 := hx0 ▸ (Below.refl _ _).alloc (Nat.le_refl _) _
  have hzx : x0.heap.size = w.heap.size + 2 := by rw [hx0]; simp; omega
  have f0 := (hbx.cell (p := ⟨w.heap.size, 0, none⟩) (by simp; omega)).trans g0
  have f1 := (hbx.cell (p := ⟨w.heap.size, 1, none⟩) (by simp; omega)).trans g1
  have f2 := (hbx.cell (p := ⟨w.heap.size, 2, none⟩) (by simp; omega)).trans g2
  have f3 := (hbx.cell (p := ⟨w.heap.size, 3, none⟩) (by simp; omega)).trans g3
  have HX := Lib.hid (hb0.trans (hbx.mono hb0.size))
  have HR := Lib.hid hR
  have HZ := Lib.hid hzx
  have hw0' := hw0.symm
  have hx0' := hx0.symm
  have c1 := Lib.hid (fun W (hb : Below w.heap.size w W) => RegCheck_any k A c l W (hk.below hb) (h.below hb))
  have c2 := Lib.hid (fun W (hb : Below w.heap.size w W) => Place_any A c l nm W (h.row.below hb) h.len)
  have HP := Lib.hid h
  have hzz : w.heap.size < x0.heap.size := by omega
  have hzz1 : w.heap.size + 1 < x0.heap.size := by omega
  clear hw0 hx0 hb0 hbx hR hzx hk h g0 g1 g2 g3
  obtain ⟨E, hE⟩ : ∃ E, E = fndErr k l nm := ⟨_, rfl⟩
  rw [← hE]
  unfold fndErr at hE
  have HF := Lib.hid (show ∀ (W : World) (b : Nat) (X : Plc), FoundIs k l nm W b X ↔ FoundIs k l nm W b X from fun _ _ _ => Iff.rfl)
  by_cases t1 : rgErr k l = 0
  · rw [if_neg (by omega)] at hE
    rw [t1] at c1
    rcases find_cases (named nm) l with ⟨e1, e2⟩ | ⟨j, hj, e1, e2⟩
    · rw [e1] at hE c2
      rw [if_pos (by omega)] at hE
      have HFE := Lib.hid (show fndErr k l nm ≠ 0 by unfold fndErr; rw [if_neg (by omega), e1, if_pos (by omega)]; omega)
      clear e1 e2 HF t1
      go_enter Tryz.func64, Tryz.ntmps64
      go_wp2_with (first
        | (go_at_call 28; (with_reducible refine (c1.out _ HX.out).mono ?_); rintro e w1 ⟨rfl, hb1⟩
           have HB1 := Lib.hid (HX.out.trans (hb1.mono HX.out.size))
           have k3 := (hb1.cell (p := ⟨w.heap.size, 3, none⟩) hzz).trans f3
           have HR1 := Lib.hid ((hb1.block (w.heap.size + 1) hzz1).trans HR.out)
           clear hb1)
        | (go_at_call 134; (with_reducible refine (c2.out _ HB1.out).mono ?_); rintro e w2 ⟨rfl, hb2⟩
           have HB2 := Lib.hid (HB1.out.trans (hb2.mono HB1.out.size))
           have HR2 := Lib.hid ((hb2.block (w.heap.size + 1) (Array.getElem?_eq_some_iff.1 HR1.out).1).trans HR1.out)
           obtain ⟨⟨r0, r1, r2, r3, r4, r5, r6, r7⟩, q0, q1, q2, q3, q4, q5, q6, q7⟩ := pcells HR2.out
           clear hb2))
      obtain ⟨hg, ho⟩ := set8 HR2.out (.string ⟨#[]⟩) (.int .i64 0) (.int .i64 0) (.string ⟨#[]⟩) (.slice none 0 0) (.slice none 0 0) (.slice none 0 0) (.int .i64 0)
      refine bodyPost_ret (results_cell_tmp rfl _ _ (w.heap.size + 1) 77 _ (0, 0) _ rfl hg Tryz.underlying77 rfl Tryz.sizePlc) rfl ?_
      refine ⟨⟨noPlc, by rw [hE]; rfl, fun _ => rfl, fun e => absurd e HFE.out, noMod_ok _⟩, HB2.out.trans ((ho.below (by have := (Array.getElem?_eq_some_iff.1 HR2.out).1; omega)).mono (by omega))⟩
    · rw [e1] at hE c2
      rw [if_neg (by omega)] at hE
      have HFE := Lib.hid (show fndErr k l nm = 0 by unfold fndErr; rw [if_neg (by omega), e1, if_neg (by omega)])
      have HJ := Lib.hid e1
      have hm := plc_link (rgErr_ok t1).1 l[j] (List.getElem_mem _)
      have hlen := HP.out.len
      unfold big at hlen
      have hj' : (j : Int) < l.length := by omega
      have KJ := Lib.hid (fun W (hbW : Below w.heap.size w W) => plc_at HP.out.row hbW j hj)
      have hx := HP.out.each l[j] (List.getElem_mem _)
      have HSP := Lib.hid (show ∀ j2 (hj2 : j2 < l.length), idxOf (named nm) l = j2 → l[j2] = l[j] from fun j2 hj2 h2 => by
        have : j2 = j := by omega
        subst this; rfl)
      obtain ⟨y, hy⟩ : ∃ y, y = l[j]'hj := ⟨_, rfl⟩
      simp only [← hy] at hm KJ hx HSP
      have cO := Lib.hid (fun W (hb : Below w.heap.size w W) => Own_any y.m W (hx.below hb) (mod_small hm.1))
      have HXO := Lib.hid hx
      obtain ⟨ad, rfl, hab, _⟩ := KJ.out _ (Below.refl _ _)
      clear e1 e2 HF t1 hm hx hy
      go_enter Tryz.func64, Tryz.ntmps64
      go_wp2_with (first
        | (go_at_call 28; (with_reducible refine (c1.out _ HX.out).mono ?_); rintro e w1 ⟨rfl, hb1⟩
           have HB1 := Lib.hid (HX.out.trans (hb1.mono HX.out.size))
           have k3 := (hb1.cell (p := ⟨w.heap.size, 3, none⟩) hzz).trans f3
           have hz1 : w.heap.size < w1.heap.size := (by have := hb1.size; omega)
           have HR1 := Lib.hid ((hb1.block (w.heap.size + 1) hzz1).trans HR.out)
           clear hb1)
        | (go_at_call 134; (with_reducible refine (c2.out _ HB1.out).mono ?_); rintro e w2 ⟨rfl, hb2⟩
           have HB2 := Lib.hid (HB1.out.trans (hb2.mono HB1.out.size))
           have m3 := (hb2.cell (p := ⟨w.heap.size, 3, none⟩) hz1).trans k3
           have HR2 := Lib.hid ((hb2.block (w.heap.size + 1) (Array.getElem?_eq_some_iff.1 HR1.out).1).trans HR1.out)
           obtain ⟨_, ea, _, p0, p1, p2, p3, p4, p5, p6, p7⟩ := KJ.out _ HB2.out
           obtain rfl := Option.some.inj ea
           clear hb2))
      obtain ⟨w3, hw3⟩ : ∃ w3, w3 = w2.alloc (.cells #[.string y.m.name, .int .i64 y.m.major, .int .i64 y.m.minor, .string y.m.text, .slice y.m.eA y.m.ex.length y.m.eC, .slice y.m.iA y.m.im.length y.m.iC, .slice y.m.pA y.m.pa.length y.m.pC, .int .i64 y.first] 77) := ⟨_, rfl⟩
      rw [← hw3]
      obtain ⟨d0, d1, d2, d3, d4, d5, d6, d7, hz3, hb3⟩ := box8 hw3
      have HB3 := Lib.hid (HB2.out.trans (hb3.mono HB2.out.size))
      have hR3 : w3.heap[w.heap.size + 1]? = _ := (hb3.block (w.heap.size + 1) (Array.getElem?_eq_some_iff.1 HR2.out).1).trans HR2.out
      have HR3 := Lib.hid hR3
      have HZ3 := Lib.hid hz3
      clear hw3 hb3 hR3 hz3 m3 k3 p0 p1 p2 p3 p4 p5 p6 p7 f0 f1 f2 f3
      go_region_with (first
        | (go_at_call 135; (with_reducible refine (cO.out _ HB3.out.drew).mono ?_); rintro e w4 ⟨⟨m', rfl, hs, ho⟩, hb4⟩
           have HB4 := Lib.hid (HB3.out.drew.trans (hb4.mono HB3.out.size))
           have n7 := (hb4.cell (p := ⟨w2.heap.size, 7, none⟩) (by have := HZ3.out; simp; omega)).trans d7
           have HR4 := Lib.hid ((hb4.block (w.heap.size + 1) (Array.getElem?_eq_some_iff.1 HR3.out).1).trans HR3.out)
           obtain ⟨⟨r0, r1, r2, r3, r4, r5, r6, r7⟩, q0, q1, q2, q3, q4, q5, q6, q7⟩ := pcells HR4.out
           have HSM := Lib.hid hs
           have HOM := Lib.hid ho
           clear hb4 hs ho))
      all_goals (
        go_wp2_with fail
        obtain ⟨hg, ho⟩ := set8 HR4.out (.string m'.name) (.int .i64 m'.major) (.int .i64 m'.minor) (.string m'.text) (.slice m'.eA m'.ex.length m'.eC) (.slice m'.iA m'.im.length m'.iC) (.slice m'.pA m'.pa.length m'.pC) (.int .i64 y.first)
        refine bodyPost_ret (results_cell_tmp rfl _ _ (w.heap.size + 1) 77 _ (0, 0) _ rfl hg Tryz.underlying77 rfl Tryz.sizePlc) rfl ?_
        have hown : m'.own _ w.heap.size := (HOM.out.kp (ho.kp HR4.out (ts := [77]) (by simp)) (by decide) (by decide) (by decide)).le HB3.out.size
        refine ⟨⟨⟨m', y.first⟩, by rw [hE]; rfl, fun e => absurd HFE.out e, fun _ j2 hj2 e2 => by rw [HSP.out j2 hj2 e2]; exact ⟨rfl, HSM.out, hown⟩, hown.ok HSM.out HXO.out⟩, HB4.out.trans ((ho.below (Nat.le_of_lt (Array.getElem?_eq_some_iff.1 HR4.out).1)).mono (by omega))⟩)
  · rw [if_pos t1] at hE
    have t1' : (rgErr k l != 0) = true := by simp [t1]
    have HFE := Lib.hid (show fndErr k l nm ≠ 0 by unfold fndErr; rw [if_pos t1]; exact t1)
    rw [← hE] at c1 t1'
    clear c2 HF t1 hE
    go_enter Tryz.func64, Tryz.ntmps64
    go_wp2_with (first
      | (go_at_call 28; (with_reducible refine (c1.out _ HX.out).mono ?_); rintro e w1 ⟨rfl, hb1⟩
         have HB1 := Lib.hid (HX.out.trans (hb1.mono HX.out.size))
         have HR2 := Lib.hid ((hb1.block (w.heap.size + 1) hzz1).trans HR.out)
         obtain ⟨⟨r0, r1, r2, r3, r4, r5, r6, r7⟩, q0, q1, q2, q3, q4, q5, q6, q7⟩ := pcells HR2.out
         clear hb1))
    obtain ⟨hg, ho⟩ := set8 HR2.out (.string ⟨#[]⟩) (.int .i64 0) (.int .i64 0) (.string ⟨#[]⟩) (.slice none 0 0) (.slice none 0 0) (.slice none 0 0) (.int .i64 0)
    refine bodyPost_ret (results_cell_tmp rfl _ _ (w.heap.size + 1) 77 _ (0, 0) _ rfl hg Tryz.underlying77 rfl Tryz.sizePlc) rfl ?_
    refine ⟨⟨noPlc, rfl, fun _ => rfl, fun e => absurd e HFE.out, noMod_ok _⟩, HB1.out.trans ((ho.below (by have := (Array.getElem?_eq_some_iff.1 HR2.out).1; omega)).mono (by omega))⟩

end Go.Proofs.YtogckcjcebckgaaGreat
end

section
/- Rows that came with a call do not lie in a block of two numbers and two slices. -/
namespace Go.Proofs.YtogckcjcebckgaaGreat
open Go.RowKit

/-- a block of a registry: two numbers, two slices -/
def RgBlock (W : World) (b : Nat) (t : TypeId) : Prop := ∃ (x y : Int) (A1 : Option Addr) (n1 c1 : Nat) (A2 : Option Addr) (n2 c2 : Nat), W.heap[b]? = some (.cells #[.int .i64 x, .int .i64 y, .slice A1 n1 c1, .slice A2 n2 c2] t (0, 0))
theorem rg_cell {W : World} {b : Nat} {t : TypeId} {p : Addr} (h : RgBlock W b t) (hp : p.block = b) {u : Value} (hu : W.cell? p = some u) : (p.off < 2 ∧ ∃ x, u = .int .i64 x) ∨ (2 ≤ p.off ∧ ∃ A n c, u = .slice A n c) := by
  obtain ⟨x, y, A1, n1, c1, A2, n2, c2, hb⟩ := h
  obtain ⟨pb, o, sp⟩ := p
  subst hp
  simp only [World.cell?, hb] at hu
  split at hu
  · cases hu
  · match o, hu with
    | 0, hu => simp at hu; exact .inl ⟨by simp, x, hu.symm⟩
    | 1, hu => simp at hu; exact .inl ⟨by simp, y, hu.symm⟩
    | 2, hu => simp at hu; exact .inr ⟨by simp, _, _, _, hu.symm⟩
    | 3, hu => simp at hu; exact .inr ⟨by simp, _, _, _, hu.symm⟩
    | o + 4, hu => simp at hu
theorem off_of_add (a : Addr) (n : Nat) : (a.add n).off = a.off + n := by
  unfold Addr.add; split
  · rename_i h; subst h; rfl
  · rfl
theorem Reads.other {W W' : World} {b k n : Nat} {t : TypeId} {A : Option Addr} {xs : List Value} (h : Reads W W.heap.size k A n xs) (hr : RgBlock W b t) (ho : Only b W W')
    (hs : 0 < n → (∃ s, xs[0]? = some (.string s)) ∨ ∃ x0 x2, xs[0]? = some (.int .i64 x0) ∧ xs[2]? = some (.int .i64 x2)) : Reads W' W'.heap.size k A n xs := by
  refine ⟨h.1, fun hn => ?_⟩
  obtain ⟨ad, e, hb, hc⟩ := h.2 hn
  have hne : ad.block ≠ b := fun hbb => by
    rcases hs hn with ⟨s, h0⟩ | ⟨x0, x2, h0, h2⟩
    · rcases rg_cell hr (by rw [block_of_add]; exact hbb) (hc 0 _ h0) with ⟨_, x, h⟩ | ⟨_, _, _, _, h⟩ <;> cases h
    · rcases rg_cell hr (by rw [block_of_add]; exact hbb) (hc 2 _ h2) with ⟨h, _⟩ | ⟨_, _, _, _, h⟩
      · rw [off_of_add] at h; omega
      · cases h
  exact ⟨ad, e, Nat.lt_of_lt_of_le hb ho.size, fun j u hu => by
    rw [← hc j u hu]
    exact World.cell?_of_block (by rw [block_of_add]; exact ho.block ad.block hb hne)⟩
section
variable {W W' : World} {b : Nat} {t : TypeId} (hr : RgBlock W b t) (ho : Only b W W')
include hr ho
theorem ExpsOk.other {A : Option Addr} {l : List Exp} (h : ExpsOk W A l) : ExpsOk W' A l := ⟨Reads.other h.1 hr ho (fun hn => by
  cases l with
  | nil => simp at hn
  | cons x r => exact .inl ⟨x.name, rfl⟩), h.2⟩
theorem ImpsOk.other {A : Option Addr} {l : List Imp} (h : ImpsOk W A l) : ImpsOk W' A l := ⟨Reads.other h.1 hr ho (fun hn => by
  cases l with
  | nil => simp at hn
  | cons x r => exact .inl ⟨x.mod, rfl⟩), h.2⟩
theorem PatsOk.other {A : Option Addr} {l : List Pat} (h : PatsOk W A l) : PatsOk W' A l := ⟨Reads.other h.1 hr ho (fun hn => by
  cases l with
  | nil => simp at hn
  | cons x r => exact .inr ⟨x.kind, x.sym, rfl, rfl⟩), h.2⟩
theorem Mod.ok.other {m : Mod} (h : m.ok W) : m.ok W' := ⟨ExpsOk.other hr ho h.ex, ImpsOk.other hr ho h.im, PatsOk.other hr ho h.pa, h.name, h.text⟩
theorem Krn.ok.other {k : Krn} (h : k.ok W) : k.ok W' := ⟨ExpsOk.other hr ho h.ex⟩
theorem PlsOk.other {A : Option Addr} {l : List Plc} (h : PlsOk W A l) : PlsOk W' A l := ⟨Reads.other h.row hr ho (fun hn => by
  cases l with
  | nil => simp at hn
  | cons x r => exact .inl ⟨x.m.name, rfl⟩), h.len, fun x hx => Mod.ok.other hr ho (h.each x hx)⟩
end

end Go.Proofs.YtogckcjcebckgaaGreat
end

section
/- registryBegun returns true. -/
namespace Go.Proofs.YtogckcjcebckgaaGreat
open Go.RowKit
open Gs (Tx)

theorem Tryz.sizeRg : (Tryz.prog.info? 39).map (·.size) = some 4 := by kernel_rfl
def noKrn : Krn := ⟨0, 0, [], none, 0⟩
theorem noKrn_ok (w : World) : noKrn.ok w := ⟨⟨Row.nil, Nat.zero_le _, by simp [noKrn]⟩⟩
section
variable (A : Option Addr) (c : Nat) (a1 a2 a3 b1 b2 b3 : Option Addr) (a4 a5 a6 b4 b5 b6 : Nat)
theorem rb_round : isRound (pairB a1 a2 a3 b1 b2 b3 a4 a5 a6 b4 b5 b6) = false := by kernel_rfl
theorem rb_rg : rgErr (kern A c) (pairB a1 a2 a3 b1 b2 b3 a4 a5 a6 b4 b5 b6) = 0 := by
  unfold rgErr
  rw [lb_link, rb_round]
  have h : (areaGo (kern A c) (pairB a1 a2 a3 b1 b2 b3 a4 a5 a6 b4 b5 b6) (pairB a1 a2 a3 b1 b2 b3 a4 a5 a6 b4 b5 b6) 0).2 = 0 := by kernel_rfl
  rw [h]; rfl
theorem rb_no : rgErr noKrn (pairB a1 a2 a3 b1 b2 b3 a4 a5 a6 b4 b5 b6) = 5 := by
  unfold rgErr
  have hl : linkErr noKrn (pairB a1 a2 a3 b1 b2 b3 a4 a5 a6 b4 b5 b6) = 0 := by
    have h0 := linkErr_ok (lb_link none 0 a1 a2 a3 b1 b2 b3 a4 a5 a6 b4 b5 b6)
    unfold linkErr
    rw [h0.2.1, h0.2.2.1]; rfl
  rw [hl, rb_round]
  have h : (areaGo noKrn (pairB a1 a2 a3 b1 b2 b3 a4 a5 a6 b4 b5 b6) (pairB a1 a2 a3 b1 b2 b3 a4 a5 a6 b4 b5 b6) 0).2 = 5 := by kernel_rfl
  rw [h]; rfl
theorem rb_lib : idxOf (named ⟨#[108, 105, 98]⟩) (pairB a1 a2 a3 b1 b2 b3 a4 a5 a6 b4 b5 b6) = 1 := by kernel_rfl
theorem rb_gone : idxOf (named ⟨#[110, 111]⟩) (pairB a1 a2 a3 b1 b2 b3 a4 a5 a6 b4 b5 b6) = -1 := by kernel_rfl
theorem rb_f0 : fndErr (kern A c) (pairB a1 a2 a3 b1 b2 b3 a4 a5 a6 b4 b5 b6) ⟨#[108, 105, 98]⟩ = 0 := by
  unfold fndErr; rw [rb_rg, rb_lib]; rfl
theorem rb_f5 : fndErr (kern A c) (pairB a1 a2 a3 b1 b2 b3 a4 a5 a6 b4 b5 b6) ⟨#[110, 111]⟩ = 5 := by
  unfold fndErr; rw [rb_rg, rb_gone]; rfl
end

set_option maxHeartbeats 4000000 in
set_option maxRecDepth 100000 in
theorem reg_any (w : World) : Calls Tryz.prog 82 #[] w fun e w' => (∃ A1 c1 A2 c2 a1 a2 a3 a4 a5 a6 b1 b2 b3 b4 b5 b6, e = .returned (rgV (kern A1 c1) A2 (pairB a1 a2 a3 b1 b2 b3 a4 a5 a6 b4 b5 b6) c2) ∧ (kern A1 c1).ok w' ∧ PlsOk w' A2 (pairB a1 a2 a3 b1 b2 b3 a4 a5 a6 b4 b5 b6)) ∧ Below w.heap.size w w' := by
  obtain ⟨x0, hx0⟩ : ∃ x0, x0 = w.alloc (.cells #[.int .i64 0, .int .i64 0, .slice none 0 0, .slice none 0 0] 39) := ⟨_, rfl⟩
  have HR := Lib.hid (show x0.heap[w.heap.size]? = some (.cells #[.int .i64 0, .int .i64 0, .slice none 0 0, .slice none 0 0] 39 (0, 0)) by rw [hx0]; exact heap_alloc_new w _)
  have H0 := Lib.hid (show Below w.heap.size w x0 from hx0 ▸ (Below.refl _ _).alloc (Nat.le_refl _) _)
  have hx0' := hx0.symm
  clear hx0
  go_enter Tryz.func82, Tryz.ntmps82
  go_wp2_with fail
  refine (kernel_any _).mono ?_; rintro e w1 ⟨⟨A1, c1, rfl, hk1⟩, hb1⟩
  go_wp2_with fail
  refine (pair_any _).mono ?_; rintro e w2 ⟨⟨A2, c2, a1, a2, a3, a4, a5, a6, b1, b2, b3, b4, b5, b6, rfl, hl2⟩, hb2⟩
  have HK := Lib.hid (hk1.below hb2)
  have HL := Lib.hid hl2
  have HB := Lib.hid ((H0.out.trans (hb1.mono H0.out.size)).trans (hb2.mono (Nat.le_trans H0.out.size hb1.size)))
  have hR2 : w2.heap[w.heap.size]? = _ := (hb2.block _ (Nat.lt_of_lt_of_le (Array.getElem?_eq_some_iff.1 HR.out).1 hb1.size)).trans ((hb1.block _ (Array.getElem?_eq_some_iff.1 HR.out).1).trans HR.out)
  have HR2 := Lib.hid hR2
  have r0 := heap_cell hR2 0
  have r1 := heap_cell hR2 1
  have r2 := heap_cell hR2 2
  have r3 := heap_cell hR2 3
  have q0 := heap_free hR2 0
  have q1 := heap_free hR2 1
  have q2 := heap_free hR2 2
  have q3 := heap_free hR2 3
  simp only [List.getElem?_toArray, List.getElem?_cons_zero, List.getElem?_cons_succ] at r0 r1 r2 r3
  clear hk1 hl2 hb1 hb2 hR2
  go_wp2_with fail
  try simp only [Exit.inBlock, Exit.then]
  obtain ⟨hg, ho⟩ := set4 HR2.out (.int .i64 (kern A1 c1).major) (.int .i64 (kern A1 c1).minor) (.slice (kern A1 c1).eA (kern A1 c1).ex.length (kern A1 c1).eC) (.slice A2 2 c2)
  refine bodyPost_ret (results_cell_row rfl _ _ w.heap.size 39 _ (0, 0) _ rfl hg Tryz.underlying39 rfl Tryz.sizeRg) rfl ?_
  have hlt := (Array.getElem?_eq_some_iff.1 HR2.out).1
  refine ⟨⟨A1, c1, A2, c2, a1, a2, a3, a4, a5, a6, b1, b2, b3, b4, b5, b6, rfl, ?_, ?_⟩, HB.out.trans (ho.below (Nat.le_of_lt hlt))⟩
  · exact Krn.ok.other ⟨0, 0, none, 0, 0, none, 0, 0, HR2.out⟩ ho HK.out
  · exact PlsOk.other ⟨0, 0, none, 0, 0, none, 0, 0, HR2.out⟩ ho HL.out

set_option maxHeartbeats 4000000 in
set_option maxRecDepth 100000 in
theorem registryBegun_any (w : World) : Calls Tryz.prog 20 #[] w fun e w' => e = .returned (.bool true) ∧ Below w.heap.size w w' := by
  go_enter Tryz.func20, Tryz.ntmps20
  go_wp2_with fail
  refine (reg_any _).mono ?_; rintro e w1 ⟨⟨A1, c1, A2, c2, a1, a2, a3, a4, a5, a6, b1, b2, b3, b4, b5, b6, rfl, hk1, hl1⟩, hb1⟩
  have f1 := Lib.hid (RFind_any (kern A1 c1) A2 c2 (pairB a1 a2 a3 b1 b2 b3 a4 a5 a6 b4 b5 b6) ⟨#[108, 105, 98]⟩ w1 hk1 hl1)
  rw [rb_f0] at f1
  have HI1 := Lib.hid (rb_lib a1 a2 a3 b1 b2 b3 a4 a5 a6 b4 b5 b6)
  have HF1 := Lib.hid (rb_f0 A1 c1 a1 a2 a3 b1 b2 b3 a4 a5 a6 b4 b5 b6)
  have HB1 := Lib.hid hb1
  clear hk1 hl1 hb1
  go_wp2_with fail
  refine (f1.out).mono ?_; rintro e w2 ⟨⟨X, rfl, hX⟩, hb2⟩
  have hx4 : X.first = 4 := (hX.2.1 HF1.out 1 (by simp) HI1.out).1
  have HB2 := Lib.hid (HB1.out.trans (hb2.mono HB1.out.size))
  clear hX hb2 f1 HI1 HF1
  obtain ⟨xm, xf⟩ := X
  simp only at hx4
  subst hx4
  obtain ⟨w3, hw3⟩ : ∃ w3, w3 = w2.alloc (.cells #[.string xm.name, .int .i64 xm.major, .int .i64 xm.minor, .string xm.text, .slice xm.eA xm.ex.length xm.eC, .slice xm.iA xm.im.length xm.iC, .slice xm.pA xm.pa.length xm.pC, .int .i64 4] 77) := ⟨_, rfl⟩
  obtain ⟨_, _, _, _, _, _, _, d7, hz3, hb3⟩ := box8 hw3
  have HB3 := Lib.hid (HB2.out.trans (hb3.mono HB2.out.size))
  have HZ3 := Lib.hid hz3
  have hw3' := hw3.symm
  clear hw3 hb3 hz3
  go_wp2_with fail
  refine (reg_any _).mono ?_; rintro e w4 ⟨⟨A3, c3, A4, c4, d1, d2, d3, d4, d5, d6, g1, g2, g3, g4, g5, g6, rfl, hk4, hl4⟩, hb4⟩
  have f2 := Lib.hid (RFind_any (kern A3 c3) A4 c4 (pairB d1 d2 d3 g1 g2 g3 d4 d5 d6 g4 g5 g6) ⟨#[110, 111]⟩ w4 hk4 hl4)
  rw [rb_f5] at f2
  have n7 := (hb4.cell (p := ⟨w2.heap.size, 7, none⟩) (by have := HZ3.out; simp; omega)).trans d7
  have HB4 := Lib.hid (HB3.out.trans (hb4.mono HB3.out.size))
  have hz4 : w2.heap.size < w4.heap.size := by have := HZ3.out; have := hb4.size; omega
  clear hk4 hl4 hb4 d7
  go_wp2_with fail
  refine (f2.out).mono ?_; rintro e w5 ⟨⟨Y, rfl, hY⟩, hb5⟩
  have m7 := (hb5.cell (p := ⟨w2.heap.size, 7, none⟩) hz4).trans n7
  have HB5 := Lib.hid (HB4.out.trans (hb5.mono HB4.out.size))
  have hz5 : w2.heap.size < w5.heap.size := by have := hb5.size; omega
  obtain ⟨w6, hw6⟩ : ∃ w6, w6 = w5.alloc (.cells #[.string Y.m.name, .int .i64 Y.m.major, .int .i64 Y.m.minor, .string Y.m.text, .slice Y.m.eA Y.m.ex.length Y.m.eC, .slice Y.m.iA Y.m.im.length Y.m.iC, .slice Y.m.pA Y.m.pa.length Y.m.pC, .int .i64 Y.first] 77) := ⟨_, rfl⟩
  obtain ⟨_, _, _, _, _, _, _, _, hz6, hb6⟩ := box8 hw6
  have o7 := (hb6.cell (p := ⟨w2.heap.size, 7, none⟩) hz5).trans m7
  have HB6 := Lib.hid (HB5.out.trans (hb6.mono HB5.out.size))
  have hz66 : w2.heap.size < w6.heap.size := by omega
  have hw6' := hw6.symm
  clear hY hb5 f2 hw6 hb6 hz6 n7 m7 hz4
  go_wp2_with fail
  refine (reg_any _).mono ?_; rintro e w7 ⟨⟨A5, c5, A6, c6, h1, h2, h3, h4, h5, h6, i1, i2, i3, i4, i5, i6, rfl, hk7, hl7⟩, hb7⟩
  have f3 := Lib.hid (RegCheck_any (kern A5 c5) A6 c6 (pairB h1 h2 h3 i1 i2 i3 h4 h5 h6 i4 i5 i6) w7 hk7 hl7)
  rw [rb_rg] at f3
  have p7 := (hb7.cell (p := ⟨w2.heap.size, 7, none⟩) hz66).trans o7
  have HB7 := Lib.hid (HB6.out.trans (hb7.mono HB6.out.size))
  have hz7 : w2.heap.size < w7.heap.size := by have := hb7.size; omega
  clear hk7 hl7 hb7 o7
  go_wp2_with fail
  refine (f3.out).mono ?_; rintro e w8 ⟨rfl, hb8⟩
  have q7 := (hb8.cell (p := ⟨w2.heap.size, 7, none⟩) hz7).trans p7
  have HB8 := Lib.hid (HB7.out.trans (hb8.mono HB7.out.size))
  have hz8 : w2.heap.size < w8.heap.size := by have := hb8.size; omega
  clear hb8 p7 f3
  go_wp2_with fail
  refine (pair_any _).mono ?_; rintro e w9 ⟨⟨A7, c7, j1, j2, j3, j4, j5, j6, l1, l2, l3, l4, l5, l6, rfl, hl9⟩, hb9⟩
  have f4 := Lib.hid (RegCheck_any noKrn A7 c7 (pairB j1 j2 j3 l1 l2 l3 j4 j5 j6 l4 l5 l6) w9 (noKrn_ok _) hl9)
  rw [rb_no] at f4
  have r7 := (hb9.cell (p := ⟨w2.heap.size, 7, none⟩) hz8).trans q7
  have HB9 := Lib.hid (HB8.out.trans (hb9.mono HB8.out.size))
  have hz9 : w2.heap.size < w9.heap.size := by have := hb9.size; omega
  clear hl9 hb9 q7
  go_wp2_with fail
  refine (f4.out).mono ?_; rintro e w10 ⟨rfl, hb10⟩
  have s7 := (hb10.cell (p := ⟨w2.heap.size, 7, none⟩) hz9).trans r7
  have HB10 := Lib.hid (HB9.out.trans (hb10.mono HB9.out.size))
  clear hb10 r7 f4
  go_wp2_with fail
  go_ret
  exact ⟨by simp, HB10.out⟩

end Go.Proofs.YtogckcjcebckgaaGreat
end
