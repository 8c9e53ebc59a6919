import Derived.Test.YtjiedaialianmaaGreatKPlanBegun

namespace Go.Proofs.YtjiedaialianmaaGreat
open Go.RowKit Go.Lib

theorem cm_mem {c : Cm} {l : List Plc} {y : Plc} (h : y ∈ cmL c l) : y.m = c.m ∨ y ∈ l := by
  unfold cmL at h
  split at h
  · rcases withL_mem.1 h with rfl | h
    · exact .inl rfl
    · exact .inr h
  · split at h
    · exact .inr (List.mem_of_mem_eraseIdx h)
    · unfold upgL at h
      rcases withL_mem.1 h with rfl | h
      · exact .inl rfl
      · exact .inr (List.mem_of_mem_eraseIdx h)
theorem plan_zero {k : Krn} {c : Cm} {l : List Plc} (h : planErr k c l = 0) : rgErr k l = 0 ∧ cmErr k c l = 0 ∧ cmPre c l = 0 ∧ rgErr k (cmL c l) = 0 := by
  unfold planErr at h
  by_cases e : rgErr k l = 0
  · rw [if_neg (by omega)] at h
    exact ⟨e, h, (cm_zero h).1, (cm_zero h).2⟩
  · rw [if_pos e] at h; exact absurd h e
/-- what a command's registry is good for, told by a later world -/
theorem plan_there {k : Krn} {A : Option Addr} {l : List Plc} {w : World} {cm : Cm} (hk : k.ok w) (h : PlsOk w A l) (hm : cm.m.ok w) : ∀ (W : World) (base : Nat) (k' : Krn) (A' : Option Addr) (l' : List Plc) (c' : Nat), RgIs W base k' A' l' c' (wK (planErr k cm l) k) (wL (planErr k cm l) (cmL cm l)) →
    RgThere W k' A' l' ∧ (planErr k cm l = 0 → k'.bare = k.bare ∧ bares l' = bares (cmL cm l)) ∧ (planErr k cm l ≠ 0 → k'.bare = noKrn ∧ l' = []) := fun W base k' A' l' c' hrg => by
  by_cases t : planErr k cm l = 0
  · have h1 := hrg
    rw [t, wK0, wL0] at h1
    have h8 := (rg_facts (plan_zero t).2.2.2).2.2.1
    have hl : l'.length = (cmL cm l).length := len_like h1.mods
    refine ⟨⟨h1.own.okK h1.kern hk, ⟨Reads.of_own h1.own.mods.row, by unfold big; omega, fun x hx => ?_⟩⟩, fun _ => ⟨h1.kern, h1.mods⟩, fun e => absurd t e⟩
    have hx' : x.bare ∈ bares (cmL cm l) := h1.mods ▸ List.mem_map_of_mem hx
    obtain ⟨y, hy, e⟩ := List.mem_map.1 hx'
    have e1 : y.m.bare = x.m.bare := congrArg Plc.m e
    rcases cm_mem hy with e2 | hy
    · exact (h1.own.mods.each x hx).ok (bare_sameC (by rw [← e2]; exact e1.symm)) hm
    · exact (h1.own.mods.each x hx).ok (bare_sameC e1.symm) (h.each y hy)
  · have h1 := hrg
    rw [wKE t, wLE t] at h1
    have hn : l' = [] := by have := len_like h1.mods; exact List.eq_nil_of_length_eq_zero this
    exact ⟨RgIs.okAll h1 (noKrn_ok W) (⟨Row.nil, Nat.zero_le _, by simp⟩ : PlsOk W none []) rfl, fun e => absurd e t, fun _ => ⟨h1.kern, hn⟩⟩

end Go.Proofs.YtjiedaialianmaaGreat
