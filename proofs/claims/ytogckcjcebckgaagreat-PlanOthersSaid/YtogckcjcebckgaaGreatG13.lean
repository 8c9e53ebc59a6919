import Derived.Test.YtogckcjcebckgaaGreatG12
import Derived.Test.YtogckcjcebckgaaGreatG11
import Derived.Test.YtogckcjcebckgaaGreatG04
import Derived.Test.YtogckcjcebckgaaGreatG10
import Derived.Test.YtogckcjcebckgaaGreatG08
section

namespace Go.Proofs.YtogckcjcebckgaaGreat
open Go.RowKit Go.Lib

theorem set_first : ∀ (l : List Plc) (j : Nat) (h : j < l.length) (a : Int), (l.flatMap Plc.cells).set (j * 8 + 7) (.int .i64 a) = (l.set j ⟨l[j].m, a⟩).flatMap Plc.cells
  | x :: l, 0, _, a => by
    show (x.cells ++ l.flatMap Plc.cells).set 7 (.int .i64 a) = (⟨x.m, a⟩ : Plc).cells ++ l.flatMap Plc.cells
    rw [List.set_append_left _ _ (by show 7 < (x.cells).length; exact Nat.lt_of_lt_of_eq (by decide : 7 < 8) rfl)]
    rfl
  | x :: l, j + 1, h, a => by
    show (x.cells ++ l.flatMap Plc.cells).set ((j + 1) * 8 + 7) (.int .i64 a) = x.cells ++ (l.set j ⟨(x :: l)[j + 1].m, a⟩).flatMap Plc.cells
    have hl : x.cells.length = 8 := rfl
    rw [List.set_append_right _ _ (by rw [hl]; omega), hl, show (j + 1) * 8 + 7 - 8 = j * 8 + 7 by omega, set_first l j (by simpa using h) a]
    rfl
theorem PlcOwn.at_ {w : World} {base : Nat} {A : Option Addr} {c j : Nat} {l : List Plc} (h : PlcOwn w base (.slice A l.length c) l) (hj : j < l.length) :
    ∃ g, A = some ⟨g, 0, none⟩ ∧ base ≤ g ∧ g < w.heap.size ∧ (∃ cs, w.heap[g]? = some (.cells cs 77 (0, 0))) ∧ (∃ u, w.cell? ⟨g, j * 8 + 7, none⟩ = some u) ∧ w.frozen? ⟨g, j * 8 + 7, none⟩ = false ∧
      ∀ a, PlcOwn (w.setCell ⟨g, j * 8 + 7, none⟩ (.int .i64 a)) base (.slice A l.length c) (l.set j ⟨l[j].m, a⟩) := by
  obtain ⟨h1, h2⟩ := h
  rcases h2 with ⟨_, h0⟩ | ⟨g, cap, cur, hv, hg, hb, hnc, hcm, hsz, htk⟩
  · omega
  injection hv with ha hk hc
  subst ha
  have hlt : j * 8 + 7 < l.length * 8 := by omega
  have hflen : (l.flatMap Plc.cells).length = l.length * 8 := flat_length (enc := Plc.cells) (k := 8) (fun _ => rfl) l
  have hcl : j * 8 + 7 < cur.size := by
    have := congrArg List.length htk
    rw [List.length_take, hflen] at this
    simp at this
    omega
  refine ⟨g, rfl, hg, (Array.getElem?_eq_some_iff.1 hb).1, ⟨cur, hb⟩, ⟨cur[j * 8 + 7], by rw [heap_cell hb, Array.getElem?_eq_getElem hcl]⟩, heap_free hb _, fun a => ?_⟩
  refine ⟨by rw [List.length_set, flat_length (enc := Plc.cells) (k := 8) (fun _ => rfl), List.length_set], .inr ⟨g, cap, cur.setIfInBounds (j * 8 + 7) (.int .i64 a), ?_, hg, heap_setCell_same w g _ cur _ _ hb, ?_, hcm, by simpa using hsz, ?_⟩⟩
  · rw [← hc, List.length_set]
  · simpa using hnc
  · rw [Array.toList_setIfInBounds, List.take_set, List.length_set, htk, set_first l j hj a]

end Go.Proofs.YtogckcjcebckgaaGreat
end

section

open Go
namespace Go.Proofs.YtogckcjcebckgaaGreat

theorem len_like {l l' : List Plc} (h : bares l = bares l') : l.length = l'.length := by
  have := congrArg List.length h
  simpa using this
end Go.Proofs.YtogckcjcebckgaaGreat
end

section

namespace Go.Proofs.YtogckcjcebckgaaGreat
open Go.RowKit Go.Lib

/-- a registry of the call's own that tells what another one tells -/
structure RgIs (W : World) (base : Nat) (k : Krn) (A : Option Addr) (l : List Plc) (c : Nat) (K : Krn) (L : List Plc) : Prop where
  own : RgOwn W base k A l c
  kern : k.bare = K.bare
  mods : bares l = bares L
/-- what the packing loop keeps -/
structure PackInv (w w2 : World) (bp base q : Nat) (k1 : Krn) (A1 : Option Addr) (c1 : Nat) (l1 L : List Plc) (W : World) : Prop where
  heap : W.heap[bp]? = some (.cells #[.int .i64 k1.major, .int .i64 k1.minor, .slice k1.eA k1.ex.length k1.eC, .slice A1 L.length c1] 172 (0, 0))
  row : PlcOwn W base (.slice A1 L.length c1) L
  r16 : Row16 0 L
  same : L.map (·.m) = l1.map (·.m)
  pack : packL 0 l1 = ((packL 0 L).1, (packL 0 L).2 + q)
  kp : Kp [77] w2 W
  bel : Below w.heap.size w W
  size : base ≤ W.heap.size

theorem rgcells {W : World} {b : Nat} {v0 v1 v2 v3 : Value} {t : TypeId} (h : W.heap[b]? = some (.cells #[v0, v1, v2, v3] t (0, 0))) :
    Hid (W.heap[b]? = some (.cells #[v0, v1, v2, v3] t (0, 0))) ∧ W.cell? ⟨b, 0, none⟩ = some v0 ∧ W.cell? ⟨b, 1, none⟩ = some v1 ∧ W.cell? ⟨b, 2, none⟩ = some v2 ∧ W.cell? ⟨b, 3, none⟩ = some v3 ∧ W.frozen? ⟨b, 0, none⟩ = false ∧ W.frozen? ⟨b, 1, none⟩ = false ∧ W.frozen? ⟨b, 2, none⟩ = false ∧ W.frozen? ⟨b, 3, none⟩ = false :=
  ⟨Lib.hid h, heap_cell h 0, heap_cell h 1, heap_cell h 2, heap_cell h 3, heap_free h 0, heap_free h 1, heap_free h 2, heap_free h 3⟩

end Go.Proofs.YtogckcjcebckgaaGreat
end

section

namespace Go.Proofs.YtogckcjcebckgaaGreat
open Go.RowKit Go.Lib

theorem krn_small {k : Krn} (h : krnErr k = 0) : k.ex.length ≤ 1000000 := by
  unfold krnErr at h
  split at h
  · omega
  · split at h
    · omega
    · omega
theorem rg_facts {k : Krn} {l : List Plc} (h : rgErr k l = 0) : (∀ x ∈ l, modErr x.m = 0) ∧ Row16 0 l ∧ l.length ≤ 8 ∧ k.ex.length ≤ 1000000 := by
  have h1 := (rgErr_ok h).1
  obtain ⟨k1, k2, k3, _⟩ := linkErr_ok h1
  have hr := reg_row k2
  exact ⟨fun x hx => (hr.2.1 x hx).1, hr.2.2, hr.1, krn_small k1⟩
/-- what is told beside an errno: nothing, or the registry itself -/
def wK (E : Int) (k : Krn) : Krn := if E ≠ 0 then noKrn else k
def wL (E : Int) (l : List Plc) : List Plc := if E ≠ 0 then [] else l
theorem wK0 (k : Krn) : wK 0 k = k := rfl
theorem wL0 (l : List Plc) : wL 0 l = l := rfl
theorem wKE {E : Int} (h : E ≠ 0) (k : Krn) : wK E k = noKrn := if_pos h
theorem wLE {E : Int} (h : E ≠ 0) (l : List Plc) : wL E l = [] := if_pos h
theorem rgIs_none (W : World) (base : Nat) {E : Int} (h : E ≠ 0) (k : Krn) (l : List Plc) : RgIs W base noKrn none [] 0 (wK E k) (wL E l) := by
  rw [wKE h, wLE h]
  exact ⟨⟨World.ownsRow_nil _ _ _ _, ⟨World.ownsRow_nil _ _ _ _, by simp⟩⟩, rfl, rfl⟩

end Go.Proofs.YtogckcjcebckgaaGreat
end

section

namespace Go.Proofs.YtogckcjcebckgaaGreat
open Go.RowKit Go.Lib

end Go.Proofs.YtogckcjcebckgaaGreat
end

section

namespace Go.Proofs.YtogckcjcebckgaaGreat
open Go.RowKit Go.Lib

/-- what the document's packing keeps -/
structure RPackInv (w : World) (k : Krn) (l : List Plc) (q : Nat) (A1 : Option Addr) (L : List Plc) (c1 : Nat) (W : World) : Prop where
  heap : W.heap[w.heap.size]? = some (.cells #[.int .i64 k.major, .int .i64 k.minor, .slice k.eA k.ex.length k.eC, .slice A1 L.length c1] 39 (0, 0))
  res : W.heap[w.heap.size + 1]? = some (.cells #[.int .i64 0, .int .i64 0, .slice none 0 0, .slice none 0 0] 39 (0, 0))
  ok : PlsOk W A1 L
  r16 : Row16 0 L
  same : L.map (·.m) = l.map (·.m)
  pack : packL 0 l = ((packL 0 L).1, (packL 0 L).2 + q)
  bel : Below w.heap.size w W

end Go.Proofs.YtogckcjcebckgaaGreat
end

section

namespace Go.Proofs.YtogckcjcebckgaaGreat
open Go.RowKit Go.Lib

theorem RgIs.okAll {W W0 : World} {base : Nat} {k K : Krn} {A A0 : Option Addr} {l L L0 : List Plc} {c : Nat} (h : RgIs W base k A l c K L) (hK : K.ok W0) (hL : PlsOk W0 A0 L0) (hm : L.map (·.m) = L0.map (·.m)) : k.ok W ∧ PlsOk W A l := by
  refine ⟨h.own.okK h.kern hK, h.own.mods.ok rfl ?_ hL⟩
  have e1 : l.map (fun x => x.m.bare) = (bares l).map (·.m) := by rw [List.map_map]; rfl
  have e2 : L0.map (fun x => x.m.bare) = (L0.map (·.m)).map Mod.bare := by rw [List.map_map]; rfl
  rw [e1, h.mods, e2, ← hm, List.map_map, List.map_map]; rfl
section
variable (a1 a2 a3 b1 b2 b3 : Option Addr) (a4 a5 a6 b4 b5 b6 : Nat)
end

end Go.Proofs.YtogckcjcebckgaaGreat
end
