import Derived.Test.YtogckcjcebckgaaGreatG13
section
/- What later worlds still tell of registries that came out of calls; what is packed is packed. -/
namespace Go.Proofs.YtogckcjcebckgaaGreat
open Go.RowKit Go.Lib

/-- what a later world still tells of a registry that came out of a call -/
def RgThere (W : World) (k : Krn) (A : Option Addr) (l : List Plc) : Prop := k.ok W ∧ PlsOk W A l
theorem RgThere.below {W W' : World} {k : Krn} {A : Option Addr} {l : List Plc} (h : RgThere W k A l) (hb : Below W.heap.size W W') : RgThere W' k A l := ⟨h.1.below hb, h.2.below hb⟩
theorem RgThere.other {W W' : World} {k : Krn} {A : Option Addr} {l : List Plc} {b : Nat} {t : TypeId} (h : RgThere W k A l) (hr : RgBlock W b t) (ho : Only b W W') : RgThere W' k A l := ⟨Krn.ok.other hr ho h.1, PlsOk.other hr ho h.2⟩
theorem blk' {W W' : World} {b : Nat} {o : Obj} (hb : Below W.heap.size W W') (h : W.heap[b]? = some o) : W'.heap[b]? = some o := (hb.block b (Array.getElem?_eq_some_iff.1 h).1).trans h

theorem packed_facts {k k1 : Krn} {l l1 : List Plc} (h : rgErr k l = 0) (hk : k1.bare = k.bare) (hl : bares l1 = bares (packL 0 l).1) : rgErr k1 l1 = 0 ∧ stepL 0 l1 = none ∧ packL 0 l1 = (l1, 0) := by
  obtain ⟨f1, f2, f3, f4⟩ := rg_facts h
  have hrow := pack_row f2
  have hr1 : Row16 0 l1 := row16_like hl.symm hrow
  have hs : stepL 0 l1 = none := by
    have e := (step_like hl 0).1
    rw [step_packed] at e
    cases hq : stepL 0 l1 with
    | none => rfl
    | some x => rw [hq] at e; cases e
  exact ⟨by rw [rgErr_like hk hl]; exact rgErr_moved h pack_mods.symm hrow, hs, step_none hr1 hs⟩
/-- what two calls make of one registry, told by a later world -/
theorem there_of {E : Int} {k : Krn} {A : Option Addr} {l : List Plc} {w : World} (hk : k.ok w) (h : PlsOk w A l) : ∀ (W : World) (base : Nat) (k' : Krn) (A' : Option Addr) (l' : List Plc) (c' : Nat) (L : List Plc), L.map (·.m) = l.map (·.m) → RgIs W base k' A' l' c' (wK E k) (wL E L) →
    RgThere W k' A' l' ∧ (E = 0 → k'.bare = k.bare ∧ bares l' = bares L) ∧ (E ≠ 0 → k'.bare = noKrn ∧ l' = []) := fun W base k' A' l' c' L hL hrg => by
  by_cases t : E = 0
  · have h1 := hrg
    rw [t, wK0, wL0] at h1
    exact ⟨RgIs.okAll h1 hk h hL, fun _ => ⟨h1.kern, h1.mods⟩, fun e => absurd t e⟩
  · have h1 := hrg
    rw [wKE t, wLE t] at h1
    have hn : l' = [] := by have := len_like h1.mods; exact List.eq_nil_of_length_eq_zero this
    exact ⟨RgIs.okAll h1 (noKrn_ok W) (⟨Row.nil, Nat.zero_le _, by simp⟩ : PlsOk W none []) rfl, fun e => absurd e t, fun _ => ⟨h1.kern, hn⟩⟩

end Go.Proofs.YtogckcjcebckgaaGreat
end

section
/- Plain Lean: which runs are free behind packing (chapter J). No program in sight. -/
open Go
namespace Go.Proofs.YtogckcjcebckgaaGreat

theorem runs_bare : ∀ (l : List Plc) (a : Int), runsFrom a (bares l) = runsFrom a l
  | [], _ => rfl
  | x :: l, a => by
    show gapRun a x.bare.first ++ runsFrom (endOf x.bare) (bares l) = _
    rw [runs_bare l]; rfl
theorem sum_range : ∀ {l : List Plc} {a : Int}, Row16 a l → a + sumMods l ≤ 16
  | [], a, h => by simpa [sumMods] using h.le
  | x :: l, a, ⟨h1, h2, h3, h4⟩ => by
    have := sum_range h4
    have e : endOf x = x.first + manyOf x.m := rfl
    show a + (manyOf x.m + sumMods l) ≤ 16
    omega
/-- behind packing: no run, or one that ends where all end -/
theorem packed_runs {l l1 : List Plc} (h : Row16 0 l) (hl : bares l1 = bares (packL 0 l).1) : runsOf l1 = [] ∨ ∃ s : Int, 0 ≤ s ∧ s ≤ 16 ∧ runsOf l1 = [⟨s, 16 - s⟩] := by
  have e : runsOf l1 = gapRun (0 + sumMods l) 16 := by
    unfold runsOf
    rw [← runs_bare, hl, runs_bare, pack_runs]
  have := sum_range h
  have h0 : ∀ l : List Plc, 0 ≤ sumMods l := by
    intro l
    induction l with
    | nil => exact Int.le_refl _
    | cons x r ih => show 0 ≤ manyOf x.m + sumMods r; have := manyOf_nonneg x.m; omega
  have := h0 l
  rw [e]
  unfold gapRun
  split
  · exact .inr ⟨0 + sumMods l, by omega, by omega, rfl⟩
  · exact .inl rfl
theorem pack_zero {l : List Plc} (h : Row16 0 l) (h0 : (packL 0 l).2 = 0) : stepL 0 l = none := by
  cases hq : stepL 0 l with
  | none => rfl
  | some x => have := (step_some h hq).2; rw [this] at h0; simp at h0

end Go.Proofs.YtogckcjcebckgaaGreat
end
