import Derived.Test.YtogckcjcebckgaaGreatKPlanBegun
/- Plans (chapter I): what is told of what a command makes of a registry; what is installed can be removed. -/
namespace Go.Proofs.YtogckcjcebckgaaGreat
open Go.RowKit Go.Lib

theorem cm_mem {c : Cm} {l : List Plc} {y : Plc} (h : y ∈ cmL c l) : y.m = c.m ∨ y ∈ l := by
  unfold cmL at h
  split at h
  · rcases withL_mem.1 h with rfl | h
    · exact .inl rfl
    · exact .inr h
  · split at h
    · exact .inr (List.mem_of_mem_eraseIdx h)
    · unfold upgL at h
      rcases withL_mem.1 h with rfl | h
      · exact .inl rfl
      · exact .inr (List.mem_of_mem_eraseIdx h)
theorem plan_zero {k : Krn} {c : Cm} {l : List Plc} (h : planErr k c l = 0) : rgErr k l = 0 ∧ cmErr k c l = 0 ∧ cmPre c l = 0 ∧ rgErr k (cmL c l) = 0 := by
  unfold planErr at h
  by_cases e : rgErr k l = 0
  · rw [if_neg (by omega)] at h
    exact ⟨e, h, (cm_zero h).1, (cm_zero h).2⟩
  · rw [if_pos e] at h; exact absurd h e
/-- what a command's registry is good for, told by a later world -/
theorem plan_there {k : Krn} {A : Option Addr} {l : List Plc} {w : World} {cm : Cm} (hk : k.ok w) (h : PlsOk w A l) (hm : cm.m.ok w) : ∀ (W : World) (base : Nat) (k' : Krn) (A' : Option Addr) (l' : List Plc) (c' : Nat), RgIs W base k' A' l' c' (wK (planErr k cm l) k) (wL (planErr k cm l) (cmL cm l)) →
    RgThere W k' A' l' ∧ (planErr k cm l = 0 → k'.bare = k.bare ∧ bares l' = bares (cmL cm l)) ∧ (planErr k cm l ≠ 0 → k'.bare = noKrn ∧ l' = []) := fun W base k' A' l' c' hrg => by
  by_cases t : planErr k cm l = 0
  · have h1 := hrg
    rw [t, wK0, wL0] at h1
    have h8 := (rg_facts (plan_zero t).2.2.2).2.2.1
    have hl : l'.length = (cmL cm l).length := len_like h1.mods
    refine ⟨⟨h1.own.okK h1.kern hk, ⟨Reads.of_own h1.own.mods.row, by unfold big; omega, fun x hx => ?_⟩⟩, fun _ => ⟨h1.kern, h1.mods⟩, fun e => absurd t e⟩
    have hx' : x.bare ∈ bares (cmL cm l) := h1.mods ▸ List.mem_map_of_mem hx
    obtain ⟨y, hy, e⟩ := List.mem_map.1 hx'
    have e1 : y.m.bare = x.m.bare := congrArg Plc.m e
    rcases cm_mem hy with e2 | hy
    · exact (h1.own.mods.each x hx).ok (bare_sameC (by rw [← e2]; exact e1.symm)) hm
    · exact (h1.own.mods.each x hx).ok (bare_sameC e1.symm) (h.each y hy)
  · have h1 := hrg
    rw [wKE t, wLE t] at h1
    have hn : l' = [] := by have := len_like h1.mods; exact List.eq_nil_of_length_eq_zero this
    exact ⟨RgIs.okAll h1 (noKrn_ok W) (⟨Row.nil, Nat.zero_le _, by simp⟩ : PlsOk W none []) rfl, fun e => absurd e t, fun _ => ⟨h1.kern, hn⟩⟩

theorem planErr_like {k k' : Krn} {c c' : Cm} {l l' : List Plc} (hk : k.bare = k'.bare) (hc : c.bare = c'.bare) (hl : bares l = bares l') : planErr k c l = planErr k' c' l' := by
  unfold planErr
  rw [rgErr_like hk hl, cmErr_like hk hc hl]
theorem back_facts {k k1 : Krn} {l l1 : List Plc} {m : Mod} (h : planErr k ⟨1, m, ⟨#[]⟩⟩ l = 0) (hk1 : k1.bare = k.bare) (hl1 : bares l1 = bares (instL l m)) :
    planErr k1 ⟨1, m, ⟨#[]⟩⟩ l1 = 6 ∧ (planErr k1 ⟨2, noMod, m.name⟩ l1 = 0 ∧ bares (cmL ⟨2, noMod, m.name⟩ l1) = bares l) ∧ (planErr k1 ⟨3, m, ⟨#[]⟩⟩ l1 = 0 ∧ bares (cmL ⟨3, m, ⟨#[]⟩⟩ l1) = bares l1) := by
  obtain ⟨h0, _, hp, hr⟩ := plan_zero h
  have hp : instPre l m = 0 := hp
  have hr : rgErr k (instL l m) = 0 := hr
  refine ⟨?_, ⟨?_, ?_⟩, ⟨?_, ?_⟩⟩
  · rw [planErr_like hk1 rfl hl1]
    unfold planErr cmErr
    have e : cmPre ⟨1, m, ⟨#[]⟩⟩ (instL l m) = 6 := back_twice hp
    rw [if_neg (by omega), e]; rfl
  · rw [planErr_like hk1 rfl hl1]
    obtain ⟨b1, b2⟩ := back_remove h0 hp hr
    have e : cmPre ⟨2, noMod, m.name⟩ (instL l m) = 0 := b1
    have e2 : cmL ⟨2, noMod, m.name⟩ (instL l m) = l := b2
    unfold planErr cmErr
    rw [if_neg (by omega), if_neg (by omega), e2]; exact h0
  · rw [cmL_like (c' := ⟨2, noMod, m.name⟩) rfl hl1]
    exact congrArg bares (back_remove h0 hp hr).2
  · rw [planErr_like hk1 rfl hl1]
    obtain ⟨b1, b2⟩ := back_upgrade hp
    have e : cmPre ⟨3, m, ⟨#[]⟩⟩ (instL l m) = 0 := b1
    have e2 : cmL ⟨3, m, ⟨#[]⟩⟩ (instL l m) = instL l m := b2
    unfold planErr cmErr
    rw [if_neg (by omega), if_neg (by omega), e2]; exact hr
  · rw [cmL_like (c' := ⟨3, m, ⟨#[]⟩⟩) rfl hl1, hl1]
    exact congrArg bares (back_upgrade hp).2

end Go.Proofs.YtogckcjcebckgaaGreat
