import Derived.Test.YtjnfemcfohflnaaPatsW
/- module.Check: it tells modErr. -/
namespace Go.Proofs.Ytjnfemcfohflnaa
open Go.RowKit

theorem size_zero {s : ByteArray} : s = ⟨#[]⟩ ↔ s.size = 0 := by
  constructor
  · rintro rfl; rfl
  · intro h; refine ba_eq ?_
    have : s.data.toList.length = 0 := by simpa using h
    rw [List.eq_nil_of_length_eq_zero this]

theorem kernel_eq (s : ByteArray) : (s.toList == [107, 101, 114, 110, 101, 108]) = decide (s = kernelBytes) := by
  rw [Lib.toList_data, Bool.eq_iff_iff, beq_iff_eq, decide_eq_true_eq]
  exact ⟨fun h => ba_eq h, fun h => by rw [h]; rfl⟩

set_option maxHeartbeats 8000000 in
set_option maxRecDepth 100000 in
theorem Check_any (m : Mod) (w : World) (h : m.ok w) :
    Calls Try.prog 45 #[m.v] w fun e w' => e = .returned (.int .i64 (modErr m)) ∧ Below w.heap.size w w' := by
  obtain ⟨hex, him, hpa, hnm, htx⟩ := h
  obtain ⟨w0, hw0⟩ : ∃ w0, w0 = w.alloc (.cells #[.string m.name, .int .i64 m.major, .int .i64 m.minor, .string m.text, .slice m.eA m.ex.length m.eC, .slice m.iA m.im.length m.iC, .slice m.pA m.pa.length m.pC] 34) := ⟨_, rfl⟩
  obtain ⟨g0, g1, g2, g3, g4, g5, g6, hz, hb0⟩ := box7 hw0
  have hz0 : w.heap.size < w0.heap.size := by omega
  have H0 := Lib.hid hb0
  have hw0' := hw0.symm
  clear hw0 hb0
  obtain ⟨E, hE⟩ : ∃ E, E = modErr m := ⟨_, rfl⟩
  rw [← hE]
  have HE := Lib.hid hE
  have hl1 := hex.2.1
  have hl2 := him.2.1
  have hl3 := hpa.2
  have ht := htx
  unfold big at hl1 hl2 hl3 ht
  have z1 := Lib.hid (show (m.text.size : Int) ≤ big by unfold big; omega)
  have HEX := Lib.hid hex
  have HIM := Lib.hid him
  have HPA := Lib.hid hpa
  have HTX := Lib.hid htx
  have hme : modErr m = if isName m.name = false ∨ m.name = kernelBytes then 1
    else if m.major < 0 ∨ 255 < m.major ∨ m.minor < 0 ∨ 255 < m.minor then 3
    else if 256 < m.text.size ∨ 6 < m.ex.length ∨ 6 < m.im.length ∨ 12 < m.pa.length then 2
    else if m.text.size = 0 ∨ m.text.size % 4 ≠ 0 then 1
    else if expErr [] m.text.size m.ex ≠ 0 then expErr [] m.text.size m.ex
    else if impsErr [] m.im ≠ 0 then impsErr [] m.im
    else patsErr m.text.size m.im.length 0 m.pa := rfl
  rw [hme] at hE
  have c1 := Lib.hid (fun W => Name_any m.name W hnm)
  clear hme hnm hex him hpa htx
  have c2 := Lib.hid (fun W => version_any m.major m.minor W)
  have c3 := Lib.hid (fun W (hb : Below w.heap.size w W) => MExports_any m.eA m.eC m.ex m.text.size W ⟨HEX.out.1.below hb, HEX.out.2⟩ (by omega) z1.out)
  have c4 := Lib.hid (fun W (hb : Below w.heap.size w W) => imports_any m.iA m.iC m.im W ⟨HIM.out.1.below hb, HIM.out.2⟩)
  have c5 := Lib.hid (fun W (hb : Below w.heap.size w W) => patches_any m.name m.text m.major m.minor m.eA m.iA m.pA m.ex.length m.eC m.im.length m.iC m.pC m.pa W ⟨HPA.out.1.below hb, HPA.out.2⟩ HTX.out HIM.out.2.1)
  have kq := kernel_eq m.name
  have hv : verOk m.major m.minor = !decide (m.major < 0 ∨ 255 < m.major ∨ m.minor < 0 ∨ 255 < m.minor) := by
    unfold verOk; rw [Bool.eq_iff_iff]; simp; omega
  by_cases t1 : isName m.name = true
  case neg =>
    rw [if_pos (by simp at t1; exact .inl t1)] at hE
    rw [show isName m.name = false by simpa using t1] at c1
    clear t1 kq hv
    go_enter Try.func45, Try.ntmps45
    go_wp2_with (first | (go_at_call 43; (with_reducible refine (c1.out _).mono ?_); rintro e w1 ⟨rfl, hb1⟩; obtain ⟨hc1, hf1⟩ := bcell hb1; have hz1 : w.heap.size < w1.heap.size := by have := hb1.size; (try simp at this); omega) | (go_at_call 58; (with_reducible refine (c2.out _).mono ?_); rintro e w' ⟨rfl, rfl⟩) | (go_at_call 30; (with_reducible refine (c3.out _ (H0.out.trans (hb1.mono (by omega)))).mono ?_); rintro e w3 ⟨rfl, hb3⟩; obtain ⟨hc3, hf3⟩ := bcell hb3; have hz3 : w.heap.size < w3.heap.size := by have := hb3.size; (try simp at this); omega) | (go_at_call 59; (with_reducible refine (c4.out _ ((H0.out.trans (hb1.mono (by omega))).trans (hb3.mono (by omega)))).mono ?_); rintro e w4 ⟨rfl, hb4⟩; obtain ⟨hc4, hf4⟩ := bcell hb4; have hz4 : w.heap.size < w4.heap.size := by have := hb4.size; (try simp at this); omega) | (go_at_call 60; (with_reducible refine (c5.out _ (((H0.out.trans (hb1.mono (by omega))).trans (hb3.mono (by omega))).trans (hb4.mono (by omega)))).mono ?_); rintro e w5 ⟨rfl, hb5⟩; obtain ⟨hc5, hf5⟩ := bcell hb5; have hz5 : w.heap.size < w5.heap.size := by have := hb5.size; (try simp at this); omega))
    go_ret
    exact ⟨ret_int hE.symm, (H0.out.trans (hb1.mono (by omega)))⟩
  rw [t1] at c1
  by_cases t2 : m.name = kernelBytes
  case pos =>
    rw [if_pos (.inr t2)] at hE
    rw [show decide (m.name = kernelBytes) = true by simp [t2]] at kq
    clear t1 t2 hv
    go_enter Try.func45, Try.ntmps45
    go_wp2_with (first | (go_at_call 43; (with_reducible refine (c1.out _).mono ?_); rintro e w1 ⟨rfl, hb1⟩; obtain ⟨hc1, hf1⟩ := bcell hb1; have hz1 : w.heap.size < w1.heap.size := by have := hb1.size; (try simp at this); omega) | (go_at_call 58; (with_reducible refine (c2.out _).mono ?_); rintro e w' ⟨rfl, rfl⟩) | (go_at_call 30; (with_reducible refine (c3.out _ (H0.out.trans (hb1.mono (by omega)))).mono ?_); rintro e w3 ⟨rfl, hb3⟩; obtain ⟨hc3, hf3⟩ := bcell hb3; have hz3 : w.heap.size < w3.heap.size := by have := hb3.size; (try simp at this); omega) | (go_at_call 59; (with_reducible refine (c4.out _ ((H0.out.trans (hb1.mono (by omega))).trans (hb3.mono (by omega)))).mono ?_); rintro e w4 ⟨rfl, hb4⟩; obtain ⟨hc4, hf4⟩ := bcell hb4; have hz4 : w.heap.size < w4.heap.size := by have := hb4.size; (try simp at this); omega) | (go_at_call 60; (with_reducible refine (c5.out _ (((H0.out.trans (hb1.mono (by omega))).trans (hb3.mono (by omega))).trans (hb4.mono (by omega)))).mono ?_); rintro e w5 ⟨rfl, hb5⟩; obtain ⟨hc5, hf5⟩ := bcell hb5; have hz5 : w.heap.size < w5.heap.size := by have := hb5.size; (try simp at this); omega))
    go_ret
    exact ⟨ret_int hE.symm, (H0.out.trans (hb1.mono (by omega)))⟩
  rw [if_neg (by simp [t1, t2])] at hE
  rw [show decide (m.name = kernelBytes) = false by simp [t2]] at kq
  by_cases t3 : m.major < 0 ∨ 255 < m.major ∨ m.minor < 0 ∨ 255 < m.minor
  case pos =>
    rw [if_pos t3] at hE
    rw [hv, show decide (m.major < 0 ∨ 255 < m.major ∨ m.minor < 0 ∨ 255 < m.minor) = true by simp [t3]] at c2
    clear t1 t2 t3 hv
    go_enter Try.func45, Try.ntmps45
    go_wp2_with (first | (go_at_call 43; (with_reducible refine (c1.out _).mono ?_); rintro e w1 ⟨rfl, hb1⟩; obtain ⟨hc1, hf1⟩ := bcell hb1; have hz1 : w.heap.size < w1.heap.size := by have := hb1.size; (try simp at this); omega) | (go_at_call 58; (with_reducible refine (c2.out _).mono ?_); rintro e w' ⟨rfl, rfl⟩) | (go_at_call 30; (with_reducible refine (c3.out _ (H0.out.trans (hb1.mono (by omega)))).mono ?_); rintro e w3 ⟨rfl, hb3⟩; obtain ⟨hc3, hf3⟩ := bcell hb3; have hz3 : w.heap.size < w3.heap.size := by have := hb3.size; (try simp at this); omega) | (go_at_call 59; (with_reducible refine (c4.out _ ((H0.out.trans (hb1.mono (by omega))).trans (hb3.mono (by omega)))).mono ?_); rintro e w4 ⟨rfl, hb4⟩; obtain ⟨hc4, hf4⟩ := bcell hb4; have hz4 : w.heap.size < w4.heap.size := by have := hb4.size; (try simp at this); omega) | (go_at_call 60; (with_reducible refine (c5.out _ (((H0.out.trans (hb1.mono (by omega))).trans (hb3.mono (by omega))).trans (hb4.mono (by omega)))).mono ?_); rintro e w5 ⟨rfl, hb5⟩; obtain ⟨hc5, hf5⟩ := bcell hb5; have hz5 : w.heap.size < w5.heap.size := by have := hb5.size; (try simp at this); omega))
    go_ret
    exact ⟨ret_int hE.symm, (H0.out.trans (hb1.mono (by omega)))⟩
  rw [if_neg t3] at hE
  rw [hv, show decide (m.major < 0 ∨ 255 < m.major ∨ m.minor < 0 ∨ 255 < m.minor) = false by simp [t3]] at c2
  clear t1 t2 t3 hv
  by_cases t4 : 256 < m.text.size
  case pos =>
    rw [if_pos (by omega)] at hE
    have t4' : (256 : Int) < (m.text.size : Nat) := by omega
    clear t4
    go_enter Try.func45, Try.ntmps45
    go_wp2_with (first | (go_at_call 43; (with_reducible refine (c1.out _).mono ?_); rintro e w1 ⟨rfl, hb1⟩; obtain ⟨hc1, hf1⟩ := bcell hb1; have hz1 : w.heap.size < w1.heap.size := by have := hb1.size; (try simp at this); omega) | (go_at_call 58; (with_reducible refine (c2.out _).mono ?_); rintro e w' ⟨rfl, rfl⟩) | (go_at_call 30; (with_reducible refine (c3.out _ (H0.out.trans (hb1.mono (by omega)))).mono ?_); rintro e w3 ⟨rfl, hb3⟩; obtain ⟨hc3, hf3⟩ := bcell hb3; have hz3 : w.heap.size < w3.heap.size := by have := hb3.size; (try simp at this); omega) | (go_at_call 59; (with_reducible refine (c4.out _ ((H0.out.trans (hb1.mono (by omega))).trans (hb3.mono (by omega)))).mono ?_); rintro e w4 ⟨rfl, hb4⟩; obtain ⟨hc4, hf4⟩ := bcell hb4; have hz4 : w.heap.size < w4.heap.size := by have := hb4.size; (try simp at this); omega) | (go_at_call 60; (with_reducible refine (c5.out _ (((H0.out.trans (hb1.mono (by omega))).trans (hb3.mono (by omega))).trans (hb4.mono (by omega)))).mono ?_); rintro e w5 ⟨rfl, hb5⟩; obtain ⟨hc5, hf5⟩ := bcell hb5; have hz5 : w.heap.size < w5.heap.size := by have := hb5.size; (try simp at this); omega))
    go_ret
    exact ⟨ret_int hE.symm, (H0.out.trans (hb1.mono (by omega)))⟩
  have t4' : decide ((256 : Int) < (m.text.size : Nat)) = false := by simp; omega
  by_cases t5 : 6 < m.ex.length
  case pos =>
    rw [if_pos (by omega)] at hE
    have t5' : (6 : Int) < (m.ex.length : Nat) := by omega
    clear t5
    go_enter Try.func45, Try.ntmps45
    go_wp2_with (first | (go_at_call 43; (with_reducible refine (c1.out _).mono ?_); rintro e w1 ⟨rfl, hb1⟩; obtain ⟨hc1, hf1⟩ := bcell hb1; have hz1 : w.heap.size < w1.heap.size := by have := hb1.size; (try simp at this); omega) | (go_at_call 58; (with_reducible refine (c2.out _).mono ?_); rintro e w' ⟨rfl, rfl⟩) | (go_at_call 30; (with_reducible refine (c3.out _ (H0.out.trans (hb1.mono (by omega)))).mono ?_); rintro e w3 ⟨rfl, hb3⟩; obtain ⟨hc3, hf3⟩ := bcell hb3; have hz3 : w.heap.size < w3.heap.size := by have := hb3.size; (try simp at this); omega) | (go_at_call 59; (with_reducible refine (c4.out _ ((H0.out.trans (hb1.mono (by omega))).trans (hb3.mono (by omega)))).mono ?_); rintro e w4 ⟨rfl, hb4⟩; obtain ⟨hc4, hf4⟩ := bcell hb4; have hz4 : w.heap.size < w4.heap.size := by have := hb4.size; (try simp at this); omega) | (go_at_call 60; (with_reducible refine (c5.out _ (((H0.out.trans (hb1.mono (by omega))).trans (hb3.mono (by omega))).trans (hb4.mono (by omega)))).mono ?_); rintro e w5 ⟨rfl, hb5⟩; obtain ⟨hc5, hf5⟩ := bcell hb5; have hz5 : w.heap.size < w5.heap.size := by have := hb5.size; (try simp at this); omega))
    go_ret
    exact ⟨ret_int hE.symm, (H0.out.trans (hb1.mono (by omega)))⟩
  have t5' : decide ((6 : Int) < (m.ex.length : Nat)) = false := by simp; omega
  by_cases t6 : 6 < m.im.length
  case pos =>
    rw [if_pos (by omega)] at hE
    have t6' : (6 : Int) < (m.im.length : Nat) := by omega
    clear t6
    go_enter Try.func45, Try.ntmps45
    go_wp2_with (first | (go_at_call 43; (with_reducible refine (c1.out _).mono ?_); rintro e w1 ⟨rfl, hb1⟩; obtain ⟨hc1, hf1⟩ := bcell hb1; have hz1 : w.heap.size < w1.heap.size := by have := hb1.size; (try simp at this); omega) | (go_at_call 58; (with_reducible refine (c2.out _).mono ?_); rintro e w' ⟨rfl, rfl⟩) | (go_at_call 30; (with_reducible refine (c3.out _ (H0.out.trans (hb1.mono (by omega)))).mono ?_); rintro e w3 ⟨rfl, hb3⟩; obtain ⟨hc3, hf3⟩ := bcell hb3; have hz3 : w.heap.size < w3.heap.size := by have := hb3.size; (try simp at this); omega) | (go_at_call 59; (with_reducible refine (c4.out _ ((H0.out.trans (hb1.mono (by omega))).trans (hb3.mono (by omega)))).mono ?_); rintro e w4 ⟨rfl, hb4⟩; obtain ⟨hc4, hf4⟩ := bcell hb4; have hz4 : w.heap.size < w4.heap.size := by have := hb4.size; (try simp at this); omega) | (go_at_call 60; (with_reducible refine (c5.out _ (((H0.out.trans (hb1.mono (by omega))).trans (hb3.mono (by omega))).trans (hb4.mono (by omega)))).mono ?_); rintro e w5 ⟨rfl, hb5⟩; obtain ⟨hc5, hf5⟩ := bcell hb5; have hz5 : w.heap.size < w5.heap.size := by have := hb5.size; (try simp at this); omega))
    go_ret
    exact ⟨ret_int hE.symm, (H0.out.trans (hb1.mono (by omega)))⟩
  have t6' : decide ((6 : Int) < (m.im.length : Nat)) = false := by simp; omega
  by_cases t7 : 12 < m.pa.length
  case pos =>
    rw [if_pos (by omega)] at hE
    have t7' : (12 : Int) < (m.pa.length : Nat) := by omega
    clear t7
    go_enter Try.func45, Try.ntmps45
    go_wp2_with (first | (go_at_call 43; (with_reducible refine (c1.out _).mono ?_); rintro e w1 ⟨rfl, hb1⟩; obtain ⟨hc1, hf1⟩ := bcell hb1; have hz1 : w.heap.size < w1.heap.size := by have := hb1.size; (try simp at this); omega) | (go_at_call 58; (with_reducible refine (c2.out _).mono ?_); rintro e w' ⟨rfl, rfl⟩) | (go_at_call 30; (with_reducible refine (c3.out _ (H0.out.trans (hb1.mono (by omega)))).mono ?_); rintro e w3 ⟨rfl, hb3⟩; obtain ⟨hc3, hf3⟩ := bcell hb3; have hz3 : w.heap.size < w3.heap.size := by have := hb3.size; (try simp at this); omega) | (go_at_call 59; (with_reducible refine (c4.out _ ((H0.out.trans (hb1.mono (by omega))).trans (hb3.mono (by omega)))).mono ?_); rintro e w4 ⟨rfl, hb4⟩; obtain ⟨hc4, hf4⟩ := bcell hb4; have hz4 : w.heap.size < w4.heap.size := by have := hb4.size; (try simp at this); omega) | (go_at_call 60; (with_reducible refine (c5.out _ (((H0.out.trans (hb1.mono (by omega))).trans (hb3.mono (by omega))).trans (hb4.mono (by omega)))).mono ?_); rintro e w5 ⟨rfl, hb5⟩; obtain ⟨hc5, hf5⟩ := bcell hb5; have hz5 : w.heap.size < w5.heap.size := by have := hb5.size; (try simp at this); omega))
    go_ret
    exact ⟨ret_int hE.symm, (H0.out.trans (hb1.mono (by omega)))⟩
  have t7' : decide ((12 : Int) < (m.pa.length : Nat)) = false := by simp; omega
  rw [if_neg (by omega)] at hE
  clear t4 t5 t6 t7
  have te : (m.text.toList == []) = decide (m.text.size = 0) := by
    rw [Lib.toList_data, Bool.eq_iff_iff]
    simp [← ByteArray.size_data]
  have tm : Int.tmod (m.text.size : Int) 4 = ((m.text.size % 4 : Nat) : Int) := by rw [Int.tmod_eq_emod_of_nonneg (by omega)]; omega
  by_cases t8 : m.text.size = 0
  case pos =>
    rw [if_pos (.inl t8)] at hE
    rw [show decide (m.text.size = 0) = true by simp [t8]] at te
    clear t8 tm
    go_enter Try.func45, Try.ntmps45
    go_wp2_with (first | (go_at_call 43; (with_reducible refine (c1.out _).mono ?_); rintro e w1 ⟨rfl, hb1⟩; obtain ⟨hc1, hf1⟩ := bcell hb1; have hz1 : w.heap.size < w1.heap.size := by have := hb1.size; (try simp at this); omega) | (go_at_call 58; (with_reducible refine (c2.out _).mono ?_); rintro e w' ⟨rfl, rfl⟩) | (go_at_call 30; (with_reducible refine (c3.out _ (H0.out.trans (hb1.mono (by omega)))).mono ?_); rintro e w3 ⟨rfl, hb3⟩; obtain ⟨hc3, hf3⟩ := bcell hb3; have hz3 : w.heap.size < w3.heap.size := by have := hb3.size; (try simp at this); omega) | (go_at_call 59; (with_reducible refine (c4.out _ ((H0.out.trans (hb1.mono (by omega))).trans (hb3.mono (by omega)))).mono ?_); rintro e w4 ⟨rfl, hb4⟩; obtain ⟨hc4, hf4⟩ := bcell hb4; have hz4 : w.heap.size < w4.heap.size := by have := hb4.size; (try simp at this); omega) | (go_at_call 60; (with_reducible refine (c5.out _ (((H0.out.trans (hb1.mono (by omega))).trans (hb3.mono (by omega))).trans (hb4.mono (by omega)))).mono ?_); rintro e w5 ⟨rfl, hb5⟩; obtain ⟨hc5, hf5⟩ := bcell hb5; have hz5 : w.heap.size < w5.heap.size := by have := hb5.size; (try simp at this); omega))
    go_ret
    exact ⟨ret_int hE.symm, (H0.out.trans (hb1.mono (by omega)))⟩
  rw [show decide (m.text.size = 0) = false by simp [t8]] at te
  by_cases t9 : m.text.size % 4 = 0
  case neg =>
    rw [if_pos (.inr t9)] at hE
    have t9' : (((m.text.size % 4 : Nat) : Int) != 0) = true := by simp; omega
    clear t8 t9
    go_enter Try.func45, Try.ntmps45
    go_wp2_with (first | (go_at_call 43; (with_reducible refine (c1.out _).mono ?_); rintro e w1 ⟨rfl, hb1⟩; obtain ⟨hc1, hf1⟩ := bcell hb1; have hz1 : w.heap.size < w1.heap.size := by have := hb1.size; (try simp at this); omega) | (go_at_call 58; (with_reducible refine (c2.out _).mono ?_); rintro e w' ⟨rfl, rfl⟩) | (go_at_call 30; (with_reducible refine (c3.out _ (H0.out.trans (hb1.mono (by omega)))).mono ?_); rintro e w3 ⟨rfl, hb3⟩; obtain ⟨hc3, hf3⟩ := bcell hb3; have hz3 : w.heap.size < w3.heap.size := by have := hb3.size; (try simp at this); omega) | (go_at_call 59; (with_reducible refine (c4.out _ ((H0.out.trans (hb1.mono (by omega))).trans (hb3.mono (by omega)))).mono ?_); rintro e w4 ⟨rfl, hb4⟩; obtain ⟨hc4, hf4⟩ := bcell hb4; have hz4 : w.heap.size < w4.heap.size := by have := hb4.size; (try simp at this); omega) | (go_at_call 60; (with_reducible refine (c5.out _ (((H0.out.trans (hb1.mono (by omega))).trans (hb3.mono (by omega))).trans (hb4.mono (by omega)))).mono ?_); rintro e w5 ⟨rfl, hb5⟩; obtain ⟨hc5, hf5⟩ := bcell hb5; have hz5 : w.heap.size < w5.heap.size := by have := hb5.size; (try simp at this); omega))
    go_ret
    exact ⟨ret_int hE.symm, (H0.out.trans (hb1.mono (by omega)))⟩
  rw [if_neg (by omega)] at hE
  have t9' : (((m.text.size % 4 : Nat) : Int) != 0) = false := by simp; omega
  clear t8 t9
  generalize expErr [] m.text.size m.ex = ee at *
  generalize impsErr [] m.im = ie at *
  generalize patsErr m.text.size m.im.length 0 m.pa = pe at *
  by_cases u1 : ee = 0
  case neg =>
    rw [if_pos u1] at hE
    have u1' : (ee == 0) = false := by simp [u1]
    clear u1
    go_enter Try.func45, Try.ntmps45
    go_wp2_with (first | (go_at_call 43; (with_reducible refine (c1.out _).mono ?_); rintro e w1 ⟨rfl, hb1⟩; obtain ⟨hc1, hf1⟩ := bcell hb1; have hz1 : w.heap.size < w1.heap.size := by have := hb1.size; (try simp at this); omega) | (go_at_call 58; (with_reducible refine (c2.out _).mono ?_); rintro e w' ⟨rfl, rfl⟩) | (go_at_call 30; (with_reducible refine (c3.out _ (H0.out.trans (hb1.mono (by omega)))).mono ?_); rintro e w3 ⟨rfl, hb3⟩; obtain ⟨hc3, hf3⟩ := bcell hb3; have hz3 : w.heap.size < w3.heap.size := by have := hb3.size; (try simp at this); omega) | (go_at_call 59; (with_reducible refine (c4.out _ ((H0.out.trans (hb1.mono (by omega))).trans (hb3.mono (by omega)))).mono ?_); rintro e w4 ⟨rfl, hb4⟩; obtain ⟨hc4, hf4⟩ := bcell hb4; have hz4 : w.heap.size < w4.heap.size := by have := hb4.size; (try simp at this); omega) | (go_at_call 60; (with_reducible refine (c5.out _ (((H0.out.trans (hb1.mono (by omega))).trans (hb3.mono (by omega))).trans (hb4.mono (by omega)))).mono ?_); rintro e w5 ⟨rfl, hb5⟩; obtain ⟨hc5, hf5⟩ := bcell hb5; have hz5 : w.heap.size < w5.heap.size := by have := hb5.size; (try simp at this); omega))
    go_ret
    exact ⟨ret_int hE.symm, ((H0.out.trans (hb1.mono (by omega))).trans (hb3.mono (by omega)))⟩
  subst u1
  rw [if_neg (by omega)] at hE
  by_cases u2 : ie = 0
  case neg =>
    rw [if_pos u2] at hE
    have u2' : (ie == 0) = false := by simp [u2]
    clear u2
    go_enter Try.func45, Try.ntmps45
    go_wp2_with (first | (go_at_call 43; (with_reducible refine (c1.out _).mono ?_); rintro e w1 ⟨rfl, hb1⟩; obtain ⟨hc1, hf1⟩ := bcell hb1; have hz1 : w.heap.size < w1.heap.size := by have := hb1.size; (try simp at this); omega) | (go_at_call 58; (with_reducible refine (c2.out _).mono ?_); rintro e w' ⟨rfl, rfl⟩) | (go_at_call 30; (with_reducible refine (c3.out _ (H0.out.trans (hb1.mono (by omega)))).mono ?_); rintro e w3 ⟨rfl, hb3⟩; obtain ⟨hc3, hf3⟩ := bcell hb3; have hz3 : w.heap.size < w3.heap.size := by have := hb3.size; (try simp at this); omega) | (go_at_call 59; (with_reducible refine (c4.out _ ((H0.out.trans (hb1.mono (by omega))).trans (hb3.mono (by omega)))).mono ?_); rintro e w4 ⟨rfl, hb4⟩; obtain ⟨hc4, hf4⟩ := bcell hb4; have hz4 : w.heap.size < w4.heap.size := by have := hb4.size; (try simp at this); omega) | (go_at_call 60; (with_reducible refine (c5.out _ (((H0.out.trans (hb1.mono (by omega))).trans (hb3.mono (by omega))).trans (hb4.mono (by omega)))).mono ?_); rintro e w5 ⟨rfl, hb5⟩; obtain ⟨hc5, hf5⟩ := bcell hb5; have hz5 : w.heap.size < w5.heap.size := by have := hb5.size; (try simp at this); omega))
    go_ret
    exact ⟨ret_int hE.symm, (((H0.out.trans (hb1.mono (by omega))).trans (hb3.mono (by omega))).trans (hb4.mono (by omega)))⟩
  subst u2
  rw [if_neg (by omega)] at hE
  go_enter Try.func45, Try.ntmps45
  go_wp2_with (first | (go_at_call 43; (with_reducible refine (c1.out _).mono ?_); rintro e w1 ⟨rfl, hb1⟩; obtain ⟨hc1, hf1⟩ := bcell hb1; have hz1 : w.heap.size < w1.heap.size := by have := hb1.size; (try simp at this); omega) | (go_at_call 58; (with_reducible refine (c2.out _).mono ?_); rintro e w' ⟨rfl, rfl⟩) | (go_at_call 30; (with_reducible refine (c3.out _ (H0.out.trans (hb1.mono (by omega)))).mono ?_); rintro e w3 ⟨rfl, hb3⟩; obtain ⟨hc3, hf3⟩ := bcell hb3; have hz3 : w.heap.size < w3.heap.size := by have := hb3.size; (try simp at this); omega) | (go_at_call 59; (with_reducible refine (c4.out _ ((H0.out.trans (hb1.mono (by omega))).trans (hb3.mono (by omega)))).mono ?_); rintro e w4 ⟨rfl, hb4⟩; obtain ⟨hc4, hf4⟩ := bcell hb4; have hz4 : w.heap.size < w4.heap.size := by have := hb4.size; (try simp at this); omega) | (go_at_call 60; (with_reducible refine (c5.out _ (((H0.out.trans (hb1.mono (by omega))).trans (hb3.mono (by omega))).trans (hb4.mono (by omega)))).mono ?_); rintro e w5 ⟨rfl, hb5⟩; obtain ⟨hc5, hf5⟩ := bcell hb5; have hz5 : w.heap.size < w5.heap.size := by have := hb5.size; (try simp at this); omega))
  go_ret
  exact ⟨ret_int hE.symm, ((((H0.out.trans (hb1.mono (by omega))).trans (hb3.mono (by omega))).trans (hb4.mono (by omega))).trans (hb5.mono (by omega)))⟩

end Go.Proofs.Ytjnfemcfohflnaa
