import Derived.Test.YtjnfemcfohflnaaPatchW
/- patch.Apply, and the document's answer to it. -/
namespace Go.Proofs.Ytjnfemcfohflnaa
open Go.RowKit

/-- a text with a patch; empty where something is wrong -/
def applyStr (s : ByteArray) (kind at_ add sym base : Int) : ByteArray :=
  if applyErr s.size kind at_ add sym base = 0 then putStr s at_.toNat (widthOf kind).toNat (valueNum kind sym add (base + at_)) else ⟨#[]⟩

theorem Put_okI (s : ByteArray) (a k n : Int) (w : World) (hs : s.size ≤ 140737488351232) (hok : checkWord s.size a k = 0) :
    Calls Try.prog 50 #[.string s, .int .i64 a, .int .i64 k, .int .i64 n] w fun e w' => e = .returned (.tuple #[.string (putStr s a.toNat k.toNat n), .int .i64 0]) ∧ Below w.heap.size w w' := by
  obtain ⟨h1, h2, h3, h4, h5⟩ := checkWord_ok hok
  have e1 : ((a.toNat : Nat) : Int) = a := by omega
  have e2 : ((k.toNat : Nat) : Int) = k := by omega
  have := Put_ok s a.toNat k.toNat n w hs (by rw [e1, e2]; exact hok)
  rwa [e1, e2] at this

theorem width_rng (k : Int) (h : widthOf k ≠ 0) : 2 ≤ widthOf k ∧ widthOf k ≤ 4 := by rcases widthOf_cases k with ⟨_, h⟩ | ⟨_, h⟩ | ⟨_, h⟩ | ⟨_, h⟩ | ⟨_, h⟩ | ⟨_, h⟩ <;> omega

set_option maxHeartbeats 1000000 in
theorem Apply_any (s : ByteArray) (kind at_ y add sym base : Int) (w : World) (hs : s.size ≤ 140737488351232) :
    Calls Try.prog 37 #[.string s, .agg #[.int .i64 kind, .int .i64 at_, .int .i64 y, .int .i64 add], .int .i64 sym, .int .i64 base] w fun e w' =>
      e = .returned (.tuple #[.string (applyStr s kind at_ add sym base), .int .i64 (applyErr s.size kind at_ add sym base)]) ∧ Below w.heap.size w w' := by
  by_cases h0 : widthOf kind = 0
  · have h1 : applyErr s.size kind at_ add sym base = 7 := by unfold applyErr; rw [if_pos h0]
    have h2 : applyStr s kind at_ add sym base = ⟨#[]⟩ := by unfold applyStr; rw [h1, if_neg (by omega)]
    rw [h1, h2]
    clear h1 h2
    go_enter Try.func37, Try.ntmps37
    go_wp2_with (first | (go_at_call 48; (with_reducible refine (MWidth_any _ _).mono ?_); rintro e w1 ⟨rfl, hb1⟩; obtain ⟨hc1, hf1⟩ := bcell hb1; have hz1 : w.heap.size < w1.heap.size := by have := hb1.size; (try simp at this); omega))
    all_goals (go_ret2; exact ⟨by simp, (((Below.refl _ _).alloc (Nat.le_refl _) _).trans (hb1.mono (by simp)))⟩)
  · obtain ⟨g1, g2⟩ := width_rng kind h0
    have h0' : (widthOf kind == 0) = false := by simp [h0]
    by_cases hr : add < 0 ∨ 65535 < add ∨ at_ < 0 ∨ (s.size : Int) - widthOf kind < at_ ∨ base < 0 ∨ 65279 < base
    · have h1 : applyErr s.size kind at_ add sym base = 3 := by unfold applyErr; rw [if_neg h0, if_pos hr]
      have h2 : applyStr s kind at_ add sym base = ⟨#[]⟩ := by unfold applyStr; rw [h1, if_neg (by omega)]
      rw [h1, h2]
      clear h1 h2
      go_enter Try.func37, Try.ntmps37
      go_wp2_with (first | (go_at_call 48; (with_reducible refine (MWidth_any _ _).mono ?_); rintro e w1 ⟨rfl, hb1⟩; obtain ⟨hc1, hf1⟩ := bcell hb1; have hz1 : w.heap.size < w1.heap.size := by have := hb1.size; (try simp at this); omega))
      all_goals (go_ret2; exact ⟨by simp, (((Below.refl _ _).alloc (Nat.le_refl _) _).trans (hb1.mono (by simp)))⟩)
    · have hr' : 0 ≤ add ∧ add ≤ 65535 ∧ 0 ≤ at_ ∧ at_ ≤ (s.size : Int) - widthOf kind ∧ 0 ≤ base ∧ base ≤ 65279 := by omega
      obtain ⟨r1, r2, r3, r4, r5, r6⟩ := hr'
      have h1 : applyErr s.size kind at_ add sym base = valueErr kind sym add (base + at_) := by unfold applyErr; rw [if_neg h0, if_neg hr]
      by_cases hv : valueErr kind sym add (base + at_) = 0
      · have h2 : applyStr s kind at_ add sym base = putStr s at_.toNat (widthOf kind).toNat (valueNum kind sym add (base + at_)) := by unfold applyStr; rw [h1, if_pos hv]
        rw [h1, h2, hv]
        have hcw : checkWord s.size at_ (widthOf kind) = 0 := checkWord_of (by omega) (by omega) (by omega) (by omega)
        have cv := Lib.hid (fun W => (Value_any kind sym add (base + at_) W).mono (fun _ _ h => (⟨h.1.trans (ret_ints rfl hv), h.2⟩ : _ = Ending.returned (.tuple #[.int .i64 (valueNum kind sym add (base + at_)), .int .i64 0]) ∧ _)))
        have cp := Lib.hid (fun W => Put_okI s at_ (widthOf kind) (valueNum kind sym add (base + at_)) W hs hcw)
        clear h1 h2 hr hv hcw
        go_enter Try.func37, Try.ntmps37
        go_wp2_with (first | (go_at_call 48; (with_reducible refine (MWidth_any _ _).mono ?_); rintro e w1 ⟨rfl, hb1⟩; obtain ⟨hc1, hf1⟩ := bcell hb1; have hz1 : w.heap.size < w1.heap.size := by have := hb1.size; (try simp at this); omega) | (go_at_call 49; (with_reducible refine (cv.out _).mono ?_); rintro e w2 ⟨rfl, hb2⟩; obtain ⟨hc2, hf2⟩ := bcell hb2; have hz2 : w.heap.size < w2.heap.size := by have := hb2.size; (try simp at this); omega) | (go_at_call 50; (with_reducible refine (cp.out _).mono ?_); rintro e w3 ⟨rfl, hb3⟩; obtain ⟨hc3, hf3⟩ := bcell hb3; have hz3 : w.heap.size < w3.heap.size := by have := hb3.size; (try simp at this); omega))
        all_goals (go_ret2; exact ⟨by simp, (((Below.refl _ _).alloc (Nat.le_refl _) _).trans ((below_step hb1 (below_step hb2 hb3)).mono (by simp)))⟩)
      · have h2 : applyStr s kind at_ add sym base = ⟨#[]⟩ := by unfold applyStr; rw [h1, if_neg hv]
        rw [h1, h2]
        have hv' : (valueErr kind sym add (base + at_) != 0) = true := by simp [hv]
        have cv := Lib.hid (fun W => Value_any kind sym add (base + at_) W)
        clear h1 h2 hr hv
        go_enter Try.func37, Try.ntmps37
        go_wp2_with (first | (go_at_call 48; (with_reducible refine (MWidth_any _ _).mono ?_); rintro e w1 ⟨rfl, hb1⟩; obtain ⟨hc1, hf1⟩ := bcell hb1; have hz1 : w.heap.size < w1.heap.size := by have := hb1.size; (try simp at this); omega) | (go_at_call 49; (with_reducible refine (cv.out _).mono ?_); rintro e w2 ⟨rfl, hb2⟩; obtain ⟨hc2, hf2⟩ := bcell hb2; have hz2 : w.heap.size < w2.heap.size := by have := hb2.size; (try simp at this); omega))
        all_goals (go_ret2; exact ⟨by simp, (((Below.refl _ _).alloc (Nat.le_refl _) _).trans ((below_step hb1 hb2).mono (by simp)))⟩)


theorem value_ok {kind sym add place : Int} (h : valueErr kind sym add place = 0) : widthOf kind ≠ 0 ∧ 0 ≤ sym ∧ sym ≤ 65535 ∧ 0 ≤ place ∧ place ≤ 65535 ∧ 0 ≤ add ∧ add ≤ 65535 ∧ ¬ (kind = 5 ∧ (sym + add - place) % 2 = 1) := by
  unfold valueErr at h
  (repeat' split at h) <;> omega
theorem value_of {kind sym add place : Int} (h0 : widthOf kind ≠ 0) (h1 : 0 ≤ sym) (h2 : sym ≤ 65535) (h3 : 0 ≤ place) (h4 : place ≤ 65535) (h5 : 0 ≤ add) (h6 : add ≤ 65535) (h7 : ¬ (kind = 5 ∧ (sym + add - place) % 2 = 1)) : valueErr kind sym add place = 0 := by
  unfold valueErr; rw [if_neg h0, if_neg (by omega), if_neg h7]

end Go.Proofs.Ytjnfemcfohflnaa
