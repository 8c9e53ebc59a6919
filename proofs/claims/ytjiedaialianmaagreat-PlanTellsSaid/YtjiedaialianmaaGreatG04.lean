import Derived.Test.YtjiedaialianmaaGreatG03
import Derived.Test.YtjiedaialianmaaGreatG01
import Derived.Shelf.GgSortFunc.Insertion
import Derived.Maps.AppendAt
import Derived.OwnWalk
section

namespace Go.Proofs.YtjiedaialianmaaGreat
open Go.RowKit

theorem kernel_eq (s : ByteArray) : (s.toList == [107, 101, 114, 110, 101, 108]) = decide (s = kernelBytes) := by
  rw [Lib.toList_data, Bool.eq_iff_iff, beq_iff_eq, decide_eq_true_eq]
  exact ⟨fun h => ba_eq h, fun h => by rw [h]; rfl⟩

set_option maxHeartbeats 8000000 in
set_option maxRecDepth 100000 in
theorem Check_any (m : Mod) (w : World) (h : m.ok w) :
    Calls Tryz.prog 113 #[m.v] w fun e w' => e = .returned (.int .i64 (modErr m)) ∧ Below w.heap.size w w' := by
  obtain ⟨hex, him, hpa, hnm, htx⟩ := h
  obtain ⟨w0, hw0⟩ : ∃ w0, w0 = w.alloc (.cells #[.string m.name, .int .i64 m.major, .int .i64 m.minor, .string m.text, .slice m.eA m.ex.length m.eC, .slice m.iA m.im.length m.iC, .slice m.pA m.pa.length m.pC] 70) := ⟨_, rfl⟩
  obtain ⟨g0, g1, g2, g3, g4, g5, g6, hz, hb0⟩ := box7 hw0
  have hz0 : w.heap.size < w0.heap.size := by omega
  have H0 := Lib.hid hb0
  have hw0' := hw0.symm
  clear hw0 hb0
  obtain ⟨E, hE⟩ : ∃ E, E = modErr m := ⟨_, rfl⟩
  rw [← hE]
  have HE := Lib.hid hE
  have hl1 := hex.2.1
  have hl2 := him.2.1
  have hl3 := hpa.2
  have ht := htx
  unfold big at hl1 hl2 hl3 ht
  have z1 := Lib.hid (show (m.text.size : Int) ≤ big by unfold big; omega)
  have HEX := Lib.hid hex
  have HIM := Lib.hid him
  have HPA := Lib.hid hpa
  have HTX := Lib.hid htx
  have hme : modErr m = if isName m.name = false ∨ m.name = kernelBytes then 1
    else if m.major < 0 ∨ 255 < m.major ∨ m.minor < 0 ∨ 255 < m.minor then 3
    else if 256 < m.text.size ∨ 6 < m.ex.length ∨ 6 < m.im.length ∨ 12 < m.pa.length then 2
    else if m.text.size = 0 ∨ m.text.size % 4 ≠ 0 then 1
    else if expErr [] m.text.size m.ex ≠ 0 then expErr [] m.text.size m.ex
    else if impsErr [] m.im ≠ 0 then impsErr [] m.im
    else patsErr m.text.size m.im.length 0 m.pa := rfl
  rw [hme] at hE
  have c1 := Lib.hid (fun W => Name_any m.name W hnm)
  clear hme hnm hex him hpa htx
  have c2 := Lib.hid (fun W => version_any m.major m.minor W)
  have c3 := Lib.hid (fun W (hb : Below w.heap.size w W) => MExports_any m.eA m.eC m.ex m.text.size W ⟨HEX.out.1.below hb, HEX.out.2⟩ (by omega) z1.out)
  have c4 := Lib.hid (fun W (hb : Below w.heap.size w W) => imports_any m.iA m.iC m.im W ⟨HIM.out.1.below hb, HIM.out.2⟩)
  have c5 := Lib.hid (fun W (hb : Below w.heap.size w W) => patches_any m.name m.text m.major m.minor m.eA m.iA m.pA m.ex.length m.eC m.im.length m.iC m.pC m.pa W ⟨HPA.out.1.below hb, HPA.out.2⟩ HTX.out HIM.out.2.1)
  have kq := kernel_eq m.name
  have hv : verOk m.major m.minor = !decide (m.major < 0 ∨ 255 < m.major ∨ m.minor < 0 ∨ 255 < m.minor) := by
    unfold verOk; rw [Bool.eq_iff_iff]; simp; omega
  by_cases t1 : isName m.name = true
  case neg =>
    rw [if_pos (by simp at t1; exact .inl t1)] at hE
    rw [show isName m.name = false by simpa using t1] at c1
    clear t1 kq hv
    go_enter Tryz.func113, Tryz.ntmps113
    go_wp2_with (first | (go_at_call 181; (with_reducible refine (c1.out _).mono ?_); rintro e w1 ⟨rfl, hb1⟩; obtain ⟨hc1, hf1⟩ := bcell hb1; have hz1 : w.heap.size < w1.heap.size := by have := hb1.size; (try simp at this); omega) | (go_at_call 182; (with_reducible refine (c2.out _).mono ?_); rintro e w' ⟨rfl, rfl⟩) | (go_at_call 154; (with_reducible refine (c3.out _ (H0.out.trans (hb1.mono (by omega)))).mono ?_); rintro e w3 ⟨rfl, hb3⟩; obtain ⟨hc3, hf3⟩ := bcell hb3; have hz3 : w.heap.size < w3.heap.size := by have := hb3.size; (try simp at this); omega) | (go_at_call 183; (with_reducible refine (c4.out _ ((H0.out.trans (hb1.mono (by omega))).trans (hb3.mono (by omega)))).mono ?_); rintro e w4 ⟨rfl, hb4⟩; obtain ⟨hc4, hf4⟩ := bcell hb4; have hz4 : w.heap.size < w4.heap.size := by have := hb4.size; (try simp at this); omega) | (go_at_call 184; (with_reducible refine (c5.out _ (((H0.out.trans (hb1.mono (by omega))).trans (hb3.mono (by omega))).trans (hb4.mono (by omega)))).mono ?_); rintro e w5 ⟨rfl, hb5⟩; obtain ⟨hc5, hf5⟩ := bcell hb5; have hz5 : w.heap.size < w5.heap.size := by have := hb5.size; (try simp at this); omega))
    go_ret
    exact ⟨ret_int hE.symm, (H0.out.trans (hb1.mono (by omega)))⟩
  rw [t1] at c1
  by_cases t2 : m.name = kernelBytes
  case pos =>
    rw [if_pos (.inr t2)] at hE
    rw [show decide (m.name = kernelBytes) = true by simp [t2]] at kq
    clear t1 t2 hv
    go_enter Tryz.func113, Tryz.ntmps113
    go_wp2_with (first | (go_at_call 181; (with_reducible refine (c1.out _).mono ?_); rintro e w1 ⟨rfl, hb1⟩; obtain ⟨hc1, hf1⟩ := bcell hb1; have hz1 : w.heap.size < w1.heap.size := by have := hb1.size; (try simp at this); omega) | (go_at_call 182; (with_reducible refine (c2.out _).mono ?_); rintro e w' ⟨rfl, rfl⟩) | (go_at_call 154; (with_reducible refine (c3.out _ (H0.out.trans (hb1.mono (by omega)))).mono ?_); rintro e w3 ⟨rfl, hb3⟩; obtain ⟨hc3, hf3⟩ := bcell hb3; have hz3 : w.heap.size < w3.heap.size := by have := hb3.size; (try simp at this); omega) | (go_at_call 183; (with_reducible refine (c4.out _ ((H0.out.trans (hb1.mono (by omega))).trans (hb3.mono (by omega)))).mono ?_); rintro e w4 ⟨rfl, hb4⟩; obtain ⟨hc4, hf4⟩ := bcell hb4; have hz4 : w.heap.size < w4.heap.size := by have := hb4.size; (try simp at this); omega) | (go_at_call 184; (with_reducible refine (c5.out _ (((H0.out.trans (hb1.mono (by omega))).trans (hb3.mono (by omega))).trans (hb4.mono (by omega)))).mono ?_); rintro e w5 ⟨rfl, hb5⟩; obtain ⟨hc5, hf5⟩ := bcell hb5; have hz5 : w.heap.size < w5.heap.size := by have := hb5.size; (try simp at this); omega))
    go_ret
    exact ⟨ret_int hE.symm, (H0.out.trans (hb1.mono (by omega)))⟩
  rw [if_neg (by simp [t1, t2])] at hE
  rw [show decide (m.name = kernelBytes) = false by simp [t2]] at kq
  by_cases t3 : m.major < 0 ∨ 255 < m.major ∨ m.minor < 0 ∨ 255 < m.minor
  case pos =>
    rw [if_pos t3] at hE
    rw [hv, show decide (m.major < 0 ∨ 255 < m.major ∨ m.minor < 0 ∨ 255 < m.minor) = true by simp [t3]] at c2
    clear t1 t2 t3 hv
    go_enter Tryz.func113, Tryz.ntmps113
    go_wp2_with (first | (go_at_call 181; (with_reducible refine (c1.out _).mono ?_); rintro e w1 ⟨rfl, hb1⟩; obtain ⟨hc1, hf1⟩ := bcell hb1; have hz1 : w.heap.size < w1.heap.size := by have := hb1.size; (try simp at this); omega) | (go_at_call 182; (with_reducible refine (c2.out _).mono ?_); rintro e w' ⟨rfl, rfl⟩) | (go_at_call 154; (with_reducible refine (c3.out _ (H0.out.trans (hb1.mono (by omega)))).mono ?_); rintro e w3 ⟨rfl, hb3⟩; obtain ⟨hc3, hf3⟩ := bcell hb3; have hz3 : w.heap.size < w3.heap.size := by have := hb3.size; (try simp at this); omega) | (go_at_call 183; (with_reducible refine (c4.out _ ((H0.out.trans (hb1.mono (by omega))).trans (hb3.mono (by omega)))).mono ?_); rintro e w4 ⟨rfl, hb4⟩; obtain ⟨hc4, hf4⟩ := bcell hb4; have hz4 : w.heap.size < w4.heap.size := by have := hb4.size; (try simp at this); omega) | (go_at_call 184; (with_reducible refine (c5.out _ (((H0.out.trans (hb1.mono (by omega))).trans (hb3.mono (by omega))).trans (hb4.mono (by omega)))).mono ?_); rintro e w5 ⟨rfl, hb5⟩; obtain ⟨hc5, hf5⟩ := bcell hb5; have hz5 : w.heap.size < w5.heap.size := by have := hb5.size; (try simp at this); omega))
    go_ret
    exact ⟨ret_int hE.symm, (H0.out.trans (hb1.mono (by omega)))⟩
  rw [if_neg t3] at hE
  rw [hv, show decide (m.major < 0 ∨ 255 < m.major ∨ m.minor < 0 ∨ 255 < m.minor) = false by simp [t3]] at c2
  clear t1 t2 t3 hv
  by_cases t4 : 256 < m.text.size
  case pos =>
    rw [if_pos (by omega)] at hE
    have t4' : (256 : Int) < (m.text.size : Nat) := by omega
    clear t4
    go_enter Tryz.func113, Tryz.ntmps113
    go_wp2_with (first | (go_at_call 181; (with_reducible refine (c1.out _).mono ?_); rintro e w1 ⟨rfl, hb1⟩; obtain ⟨hc1, hf1⟩ := bcell hb1; have hz1 : w.heap.size < w1.heap.size := by have := hb1.size; (try simp at this); omega) | (go_at_call 182; (with_reducible refine (c2.out _).mono ?_); rintro e w' ⟨rfl, rfl⟩) | (go_at_call 154; (with_reducible refine (c3.out _ (H0.out.trans (hb1.mono (by omega)))).mono ?_); rintro e w3 ⟨rfl, hb3⟩; obtain ⟨hc3, hf3⟩ := bcell hb3; have hz3 : w.heap.size < w3.heap.size := by have := hb3.size; (try simp at this); omega) | (go_at_call 183; (with_reducible refine (c4.out _ ((H0.out.trans (hb1.mono (by omega))).trans (hb3.mono (by omega)))).mono ?_); rintro e w4 ⟨rfl, hb4⟩; obtain ⟨hc4, hf4⟩ := bcell hb4; have hz4 : w.heap.size < w4.heap.size := by have := hb4.size; (try simp at this); omega) | (go_at_call 184; (with_reducible refine (c5.out _ (((H0.out.trans (hb1.mono (by omega))).trans (hb3.mono (by omega))).trans (hb4.mono (by omega)))).mono ?_); rintro e w5 ⟨rfl, hb5⟩; obtain ⟨hc5, hf5⟩ := bcell hb5; have hz5 : w.heap.size < w5.heap.size := by have := hb5.size; (try simp at this); omega))
    go_ret
    exact ⟨ret_int hE.symm, (H0.out.trans (hb1.mono (by omega)))⟩
  have t4' : decide ((256 : Int) < (m.text.size : Nat)) = false := by simp; omega
  by_cases t5 : 6 < m.ex.length
  case pos =>
    rw [if_pos (by omega)] at hE
    have t5' : (6 : Int) < (m.ex.length : Nat) := by omega
    clear t5
    go_enter Tryz.func113, Tryz.ntmps113
    go_wp2_with (first | (go_at_call 181; (with_reducible refine (c1.out _).mono ?_); rintro e w1 ⟨rfl, hb1⟩; obtain ⟨hc1, hf1⟩ := bcell hb1; have hz1 : w.heap.size < w1.heap.size := by have := hb1.size; (try simp at this); omega) | (go_at_call 182; (with_reducible refine (c2.out _).mono ?_); rintro e w' ⟨rfl, rfl⟩) | (go_at_call 154; (with_reducible refine (c3.out _ (H0.out.trans (hb1.mono (by omega)))).mono ?_); rintro e w3 ⟨rfl, hb3⟩; obtain ⟨hc3, hf3⟩ := bcell hb3; have hz3 : w.heap.size < w3.heap.size := by have := hb3.size; (try simp at this); omega) | (go_at_call 183; (with_reducible refine (c4.out _ ((H0.out.trans (hb1.mono (by omega))).trans (hb3.mono (by omega)))).mono ?_); rintro e w4 ⟨rfl, hb4⟩; obtain ⟨hc4, hf4⟩ := bcell hb4; have hz4 : w.heap.size < w4.heap.size := by have := hb4.size; (try simp at this); omega) | (go_at_call 184; (with_reducible refine (c5.out _ (((H0.out.trans (hb1.mono (by omega))).trans (hb3.mono (by omega))).trans (hb4.mono (by omega)))).mono ?_); rintro e w5 ⟨rfl, hb5⟩; obtain ⟨hc5, hf5⟩ := bcell hb5; have hz5 : w.heap.size < w5.heap.size := by have := hb5.size; (try simp at this); omega))
    go_ret
    exact ⟨ret_int hE.symm, (H0.out.trans (hb1.mono (by omega)))⟩
  have t5' : decide ((6 : Int) < (m.ex.length : Nat)) = false := by simp; omega
  by_cases t6 : 6 < m.im.length
  case pos =>
    rw [if_pos (by omega)] at hE
    have t6' : (6 : Int) < (m.im.length : Nat) := by omega
    clear t6
    go_enter Tryz.func113, Tryz.ntmps113
    go_wp2_with (first | (go_at_call 181; (with_reducible refine (c1.out _).mono ?_); rintro e w1 ⟨rfl, hb1⟩; obtain ⟨hc1, hf1⟩ := bcell hb1; have hz1 : w.heap.size < w1.heap.size := by have := hb1.size; (try simp at this); omega) | (go_at_call 182; (with_reducible refine (c2.out _).mono ?_); rintro e w' ⟨rfl, rfl⟩) | (go_at_call 154; (with_reducible refine (c3.out _ (H0.out.trans (hb1.mono (by omega)))).mono ?_); rintro e w3 ⟨rfl, hb3⟩; obtain ⟨hc3, hf3⟩ := bcell hb3; have hz3 : w.heap.size < w3.heap.size := by have := hb3.size; (try simp at this); omega) | (go_at_call 183; (with_reducible refine (c4.out _ ((H0.out.trans (hb1.mono (by omega))).trans (hb3.mono (by omega)))).mono ?_); rintro e w4 ⟨rfl, hb4⟩; obtain ⟨hc4, hf4⟩ := bcell hb4; have hz4 : w.heap.size < w4.heap.size := by have := hb4.size; (try simp at this); omega) | (go_at_call 184; (with_reducible refine (c5.out _ (((H0.out.trans (hb1.mono (by omega))).trans (hb3.mono (by omega))).trans (hb4.mono (by omega)))).mono ?_); rintro e w5 ⟨rfl, hb5⟩; obtain ⟨hc5, hf5⟩ := bcell hb5; have hz5 : w.heap.size < w5.heap.size := by have := hb5.size; (try simp at this); omega))
    go_ret
    exact ⟨ret_int hE.symm, (H0.out.trans (hb1.mono (by omega)))⟩
  have t6' : decide ((6 : Int) < (m.im.length : Nat)) = false := by simp; omega
  by_cases t7 : 12 < m.pa.length
  case pos =>
    rw [if_pos (by omega)] at hE
    have t7' : (12 : Int) < (m.pa.length : Nat) := by omega
    clear t7
    go_enter Tryz.func113, Tryz.ntmps113
    go_wp2_with (first | (go_at_call 181; (with_reducible refine (c1.out _).mono ?_); rintro e w1 ⟨rfl, hb1⟩; obtain ⟨hc1, hf1⟩ := bcell hb1; have hz1 : w.heap.size < w1.heap.size := by have := hb1.size; (try simp at this); omega) | (go_at_call 182; (with_reducible refine (c2.out _).mono ?_); rintro e w' ⟨rfl, rfl⟩) | (go_at_call 154; (with_reducible refine (c3.out _ (H0.out.trans (hb1.mono (by omega)))).mono ?_); rintro e w3 ⟨rfl, hb3⟩; obtain ⟨hc3, hf3⟩ := bcell hb3; have hz3 : w.heap.size < w3.heap.size := by have := hb3.size; (try simp at this); omega) | (go_at_call 183; (with_reducible refine (c4.out _ ((H0.out.trans (hb1.mono (by omega))).trans (hb3.mono (by omega)))).mono ?_); rintro e w4 ⟨rfl, hb4⟩; obtain ⟨hc4, hf4⟩ := bcell hb4; have hz4 : w.heap.size < w4.heap.size := by have := hb4.size; (try simp at this); omega) | (go_at_call 184; (with_reducible refine (c5.out _ (((H0.out.trans (hb1.mono (by omega))).trans (hb3.mono (by omega))).trans (hb4.mono (by omega)))).mono ?_); rintro e w5 ⟨rfl, hb5⟩; obtain ⟨hc5, hf5⟩ := bcell hb5; have hz5 : w.heap.size < w5.heap.size := by have := hb5.size; (try simp at this); omega))
    go_ret
    exact ⟨ret_int hE.symm, (H0.out.trans (hb1.mono (by omega)))⟩
  have t7' : decide ((12 : Int) < (m.pa.length : Nat)) = false := by simp; omega
  rw [if_neg (by omega)] at hE
  clear t4 t5 t6 t7
  have te : (m.text.toList == []) = decide (m.text.size = 0) := by
    rw [Lib.toList_data, Bool.eq_iff_iff]
    simp [← ByteArray.size_data]
  have tm : Int.tmod (m.text.size : Int) 4 = ((m.text.size % 4 : Nat) : Int) := by rw [Int.tmod_eq_emod_of_nonneg (by omega)]; omega
  by_cases t8 : m.text.size = 0
  case pos =>
    rw [if_pos (.inl t8)] at hE
    rw [show decide (m.text.size = 0) = true by simp [t8]] at te
    clear t8 tm
    go_enter Tryz.func113, Tryz.ntmps113
    go_wp2_with (first | (go_at_call 181; (with_reducible refine (c1.out _).mono ?_); rintro e w1 ⟨rfl, hb1⟩; obtain ⟨hc1, hf1⟩ := bcell hb1; have hz1 : w.heap.size < w1.heap.size := by have := hb1.size; (try simp at this); omega) | (go_at_call 182; (with_reducible refine (c2.out _).mono ?_); rintro e w' ⟨rfl, rfl⟩) | (go_at_call 154; (with_reducible refine (c3.out _ (H0.out.trans (hb1.mono (by omega)))).mono ?_); rintro e w3 ⟨rfl, hb3⟩; obtain ⟨hc3, hf3⟩ := bcell hb3; have hz3 : w.heap.size < w3.heap.size := by have := hb3.size; (try simp at this); omega) | (go_at_call 183; (with_reducible refine (c4.out _ ((H0.out.trans (hb1.mono (by omega))).trans (hb3.mono (by omega)))).mono ?_); rintro e w4 ⟨rfl, hb4⟩; obtain ⟨hc4, hf4⟩ := bcell hb4; have hz4 : w.heap.size < w4.heap.size := by have := hb4.size; (try simp at this); omega) | (go_at_call 184; (with_reducible refine (c5.out _ (((H0.out.trans (hb1.mono (by omega))).trans (hb3.mono (by omega))).trans (hb4.mono (by omega)))).mono ?_); rintro e w5 ⟨rfl, hb5⟩; obtain ⟨hc5, hf5⟩ := bcell hb5; have hz5 : w.heap.size < w5.heap.size := by have := hb5.size; (try simp at this); omega))
    go_ret
    exact ⟨ret_int hE.symm, (H0.out.trans (hb1.mono (by omega)))⟩
  rw [show decide (m.text.size = 0) = false by simp [t8]] at te
  by_cases t9 : m.text.size % 4 = 0
  case neg =>
    rw [if_pos (.inr t9)] at hE
    have t9' : (((m.text.size % 4 : Nat) : Int) != 0) = true := by simp; omega
    clear t8 t9
    go_enter Tryz.func113, Tryz.ntmps113
    go_wp2_with (first | (go_at_call 181; (with_reducible refine (c1.out _).mono ?_); rintro e w1 ⟨rfl, hb1⟩; obtain ⟨hc1, hf1⟩ := bcell hb1; have hz1 : w.heap.size < w1.heap.size := by have := hb1.size; (try simp at this); omega) | (go_at_call 182; (with_reducible refine (c2.out _).mono ?_); rintro e w' ⟨rfl, rfl⟩) | (go_at_call 154; (with_reducible refine (c3.out _ (H0.out.trans (hb1.mono (by omega)))).mono ?_); rintro e w3 ⟨rfl, hb3⟩; obtain ⟨hc3, hf3⟩ := bcell hb3; have hz3 : w.heap.size < w3.heap.size := by have := hb3.size; (try simp at this); omega) | (go_at_call 183; (with_reducible refine (c4.out _ ((H0.out.trans (hb1.mono (by omega))).trans (hb3.mono (by omega)))).mono ?_); rintro e w4 ⟨rfl, hb4⟩; obtain ⟨hc4, hf4⟩ := bcell hb4; have hz4 : w.heap.size < w4.heap.size := by have := hb4.size; (try simp at this); omega) | (go_at_call 184; (with_reducible refine (c5.out _ (((H0.out.trans (hb1.mono (by omega))).trans (hb3.mono (by omega))).trans (hb4.mono (by omega)))).mono ?_); rintro e w5 ⟨rfl, hb5⟩; obtain ⟨hc5, hf5⟩ := bcell hb5; have hz5 : w.heap.size < w5.heap.size := by have := hb5.size; (try simp at this); omega))
    go_ret
    exact ⟨ret_int hE.symm, (H0.out.trans (hb1.mono (by omega)))⟩
  rw [if_neg (by omega)] at hE
  have t9' : (((m.text.size % 4 : Nat) : Int) != 0) = false := by simp; omega
  clear t8 t9
  generalize expErr [] m.text.size m.ex = ee at *
  generalize impsErr [] m.im = ie at *
  generalize patsErr m.text.size m.im.length 0 m.pa = pe at *
  by_cases u1 : ee = 0
  case neg =>
    rw [if_pos u1] at hE
    have u1' : (ee == 0) = false := by simp [u1]
    clear u1
    go_enter Tryz.func113, Tryz.ntmps113
    go_wp2_with (first | (go_at_call 181; (with_reducible refine (c1.out _).mono ?_); rintro e w1 ⟨rfl, hb1⟩; obtain ⟨hc1, hf1⟩ := bcell hb1; have hz1 : w.heap.size < w1.heap.size := by have := hb1.size; (try simp at this); omega) | (go_at_call 182; (with_reducible refine (c2.out _).mono ?_); rintro e w' ⟨rfl, rfl⟩) | (go_at_call 154; (with_reducible refine (c3.out _ (H0.out.trans (hb1.mono (by omega)))).mono ?_); rintro e w3 ⟨rfl, hb3⟩; obtain ⟨hc3, hf3⟩ := bcell hb3; have hz3 : w.heap.size < w3.heap.size := by have := hb3.size; (try simp at this); omega) | (go_at_call 183; (with_reducible refine (c4.out _ ((H0.out.trans (hb1.mono (by omega))).trans (hb3.mono (by omega)))).mono ?_); rintro e w4 ⟨rfl, hb4⟩; obtain ⟨hc4, hf4⟩ := bcell hb4; have hz4 : w.heap.size < w4.heap.size := by have := hb4.size; (try simp at this); omega) | (go_at_call 184; (with_reducible refine (c5.out _ (((H0.out.trans (hb1.mono (by omega))).trans (hb3.mono (by omega))).trans (hb4.mono (by omega)))).mono ?_); rintro e w5 ⟨rfl, hb5⟩; obtain ⟨hc5, hf5⟩ := bcell hb5; have hz5 : w.heap.size < w5.heap.size := by have := hb5.size; (try simp at this); omega))
    go_ret
    exact ⟨ret_int hE.symm, ((H0.out.trans (hb1.mono (by omega))).trans (hb3.mono (by omega)))⟩
  subst u1
  rw [if_neg (by omega)] at hE
  by_cases u2 : ie = 0
  case neg =>
    rw [if_pos u2] at hE
    have u2' : (ie == 0) = false := by simp [u2]
    clear u2
    go_enter Tryz.func113, Tryz.ntmps113
    go_wp2_with (first | (go_at_call 181; (with_reducible refine (c1.out _).mono ?_); rintro e w1 ⟨rfl, hb1⟩; obtain ⟨hc1, hf1⟩ := bcell hb1; have hz1 : w.heap.size < w1.heap.size := by have := hb1.size; (try simp at this); omega) | (go_at_call 182; (with_reducible refine (c2.out _).mono ?_); rintro e w' ⟨rfl, rfl⟩) | (go_at_call 154; (with_reducible refine (c3.out _ (H0.out.trans (hb1.mono (by omega)))).mono ?_); rintro e w3 ⟨rfl, hb3⟩; obtain ⟨hc3, hf3⟩ := bcell hb3; have hz3 : w.heap.size < w3.heap.size := by have := hb3.size; (try simp at this); omega) | (go_at_call 183; (with_reducible refine (c4.out _ ((H0.out.trans (hb1.mono (by omega))).trans (hb3.mono (by omega)))).mono ?_); rintro e w4 ⟨rfl, hb4⟩; obtain ⟨hc4, hf4⟩ := bcell hb4; have hz4 : w.heap.size < w4.heap.size := by have := hb4.size; (try simp at this); omega) | (go_at_call 184; (with_reducible refine (c5.out _ (((H0.out.trans (hb1.mono (by omega))).trans (hb3.mono (by omega))).trans (hb4.mono (by omega)))).mono ?_); rintro e w5 ⟨rfl, hb5⟩; obtain ⟨hc5, hf5⟩ := bcell hb5; have hz5 : w.heap.size < w5.heap.size := by have := hb5.size; (try simp at this); omega))
    go_ret
    exact ⟨ret_int hE.symm, (((H0.out.trans (hb1.mono (by omega))).trans (hb3.mono (by omega))).trans (hb4.mono (by omega)))⟩
  subst u2
  rw [if_neg (by omega)] at hE
  go_enter Tryz.func113, Tryz.ntmps113
  go_wp2_with (first | (go_at_call 181; (with_reducible refine (c1.out _).mono ?_); rintro e w1 ⟨rfl, hb1⟩; obtain ⟨hc1, hf1⟩ := bcell hb1; have hz1 : w.heap.size < w1.heap.size := by have := hb1.size; (try simp at this); omega) | (go_at_call 182; (with_reducible refine (c2.out _).mono ?_); rintro e w' ⟨rfl, rfl⟩) | (go_at_call 154; (with_reducible refine (c3.out _ (H0.out.trans (hb1.mono (by omega)))).mono ?_); rintro e w3 ⟨rfl, hb3⟩; obtain ⟨hc3, hf3⟩ := bcell hb3; have hz3 : w.heap.size < w3.heap.size := by have := hb3.size; (try simp at this); omega) | (go_at_call 183; (with_reducible refine (c4.out _ ((H0.out.trans (hb1.mono (by omega))).trans (hb3.mono (by omega)))).mono ?_); rintro e w4 ⟨rfl, hb4⟩; obtain ⟨hc4, hf4⟩ := bcell hb4; have hz4 : w.heap.size < w4.heap.size := by have := hb4.size; (try simp at this); omega) | (go_at_call 184; (with_reducible refine (c5.out _ (((H0.out.trans (hb1.mono (by omega))).trans (hb3.mono (by omega))).trans (hb4.mono (by omega)))).mono ?_); rintro e w5 ⟨rfl, hb5⟩; obtain ⟨hc5, hf5⟩ := bcell hb5; have hz5 : w.heap.size < w5.heap.size := by have := hb5.size; (try simp at this); omega))
  go_ret
  exact ⟨ret_int hE.symm, ((((H0.out.trans (hb1.mono (by omega))).trans (hb3.mono (by omega))).trans (hb4.mono (by omega))).trans (hb5.mono (by omega)))⟩

end Go.Proofs.YtjiedaialianmaaGreat
end

section

namespace Go.Proofs.YtjiedaialianmaaGreat
open Go.RowKit

set_option maxHeartbeats 16000000 in
set_option maxRecDepth 100000 in
theorem CheckModule_any (m : Mod) (w : World) (h : m.ok w) :
    Calls Tryz.prog 104 #[m.v] w fun e w' => e = .returned (.int .i64 (modErr m)) ∧ Below w.heap.size w w' := by
  obtain ⟨hex, him, hpa, hnm, htx⟩ := h
  obtain ⟨nm, mj, mn, tx, ex, im, pa, eA, eC, iA, iC, pA, pC⟩ := m
  simp only at hex him hpa hnm htx
  obtain ⟨w0, hw0⟩ : ∃ w0, w0 = w.alloc (.cells #[.string nm, .int .i64 mj, .int .i64 mn, .string tx, .slice eA ex.length eC, .slice iA im.length iC, .slice pA pa.length pC] 70) := ⟨_, rfl⟩
  obtain ⟨g0, g1, g2, g3, g4, g5, g6, hz, hb0⟩ := box7 hw0
  have hz0 : w.heap.size < w0.heap.size := by omega
  have H0 := Lib.hid hb0
  have HZ := Lib.hid hz
  have hw0' := hw0.symm
  clear hw0 hb0 hz
  obtain ⟨E, hE⟩ : ∃ E, E = modErr ⟨nm, mj, mn, tx, ex, im, pa, eA, eC, iA, iC, pA, pC⟩ := ⟨_, rfl⟩
  rw [← hE]
  have hl1 := hex.2.1
  have hl2 := him.2.1
  have hl3 := hpa.2
  have ht := htx
  unfold big at hl1 hl2 hl3 ht
  have z1 := Lib.hid (show (tx.size : Int) ≤ big by unfold big; omega)
  have HEX := Lib.hid hex
  have HIM := Lib.hid him
  have HPA := Lib.hid hpa
  have hme : modErr ⟨nm, mj, mn, tx, ex, im, pa, eA, eC, iA, iC, pA, pC⟩ = if isName nm = false ∨ nm = kernelBytes then 1
    else if mj < 0 ∨ 255 < mj ∨ mn < 0 ∨ 255 < mn then 3
    else if 256 < tx.size ∨ 6 < ex.length ∨ 6 < im.length ∨ 12 < pa.length then 2
    else if tx.size = 0 ∨ tx.size % 4 ≠ 0 then 1
    else if expErr [] tx.size ex ≠ 0 then expErr [] tx.size ex
    else if impsErr [] im ≠ 0 then impsErr [] im
    else patsErr tx.size im.length 0 pa := rfl
  rw [hme] at hE
  have c1 := Lib.hid (fun W => IsName_any nm W hnm)
  have c3 := Lib.hid (fun W (hb : Below w.heap.size w W) => CheckExports_any eA eC ex tx.size W ⟨HEX.out.1.below hb, HEX.out.2⟩ (by omega) z1.out)
  have kq := kernel_eq nm
  clear hme hnm hex him hpa htx
  by_cases t1 : isName nm = true
  case neg =>
    rw [if_pos (by simp at t1; exact .inl t1)] at hE
    rw [show isName nm = false by simpa using t1] at c1
    clear t1 kq
    go_enter Tryz.func104, Tryz.ntmps104
    go_wp2_with (first | (go_at_call 142; (with_reducible refine (c1.out _).mono ?_); rintro e w' ⟨rfl, rfl⟩) | (go_at_call 75; (with_reducible refine (c2.out _).mono ?_); rintro e w' ⟨rfl, rfl⟩) | (go_at_call 75; (with_reducible refine (c4.out _).mono ?_); rintro e w' ⟨rfl, rfl⟩) | (go_at_call 76; (with_reducible refine (c3.out _ H0.out).mono ?_); rintro e w3 ⟨rfl, hb3⟩; obtain ⟨hc3, hf3⟩ := bcell hb3; have hz3 : w.heap.size < w3.heap.size := by have := hb3.size; (try simp at this); omega))
    go_ret
    exact ⟨ret_int hE.symm, H0.out⟩
  rw [t1] at c1
  by_cases t2 : nm = kernelBytes
  case pos =>
    rw [if_pos (.inr t2)] at hE
    rw [show decide (nm = kernelBytes) = true by simp [t2]] at kq
    clear t1 t2
    go_enter Tryz.func104, Tryz.ntmps104
    go_wp2_with (first | (go_at_call 142; (with_reducible refine (c1.out _).mono ?_); rintro e w' ⟨rfl, rfl⟩) | (go_at_call 75; (with_reducible refine (c2.out _).mono ?_); rintro e w' ⟨rfl, rfl⟩) | (go_at_call 75; (with_reducible refine (c4.out _).mono ?_); rintro e w' ⟨rfl, rfl⟩) | (go_at_call 76; (with_reducible refine (c3.out _ H0.out).mono ?_); rintro e w3 ⟨rfl, hb3⟩; obtain ⟨hc3, hf3⟩ := bcell hb3; have hz3 : w.heap.size < w3.heap.size := by have := hb3.size; (try simp at this); omega))
    go_ret
    exact ⟨ret_int hE.symm, H0.out⟩
  rw [if_neg (by simp [t1, t2])] at hE
  rw [show decide (nm = kernelBytes) = false by simp [t2]] at kq
  clear t1 t2
  by_cases t3 : 0 ≤ mj ∧ mj ≤ 255
  case neg =>
    rw [if_pos (by omega)] at hE
    have c2 := Lib.hid (fun W => between_f mj 0 255 W (by omega))
    clear t3
    go_enter Tryz.func104, Tryz.ntmps104
    go_wp2_with (first | (go_at_call 142; (with_reducible refine (c1.out _).mono ?_); rintro e w' ⟨rfl, rfl⟩) | (go_at_call 75; (with_reducible refine (c2.out _).mono ?_); rintro e w' ⟨rfl, rfl⟩) | (go_at_call 75; (with_reducible refine (c4.out _).mono ?_); rintro e w' ⟨rfl, rfl⟩) | (go_at_call 76; (with_reducible refine (c3.out _ H0.out).mono ?_); rintro e w3 ⟨rfl, hb3⟩; obtain ⟨hc3, hf3⟩ := bcell hb3; have hz3 : w.heap.size < w3.heap.size := by have := hb3.size; (try simp at this); omega))
    go_ret
    exact ⟨ret_int hE.symm, H0.out⟩
  have c2 := Lib.hid (fun W => between_t mj 0 255 W t3.1 t3.2)
  by_cases t4 : 0 ≤ mn ∧ mn ≤ 255
  case neg =>
    rw [if_pos (by omega)] at hE
    have c4 := Lib.hid (fun W => between_f mn 0 255 W (by omega))
    clear t3 t4
    go_enter Tryz.func104, Tryz.ntmps104
    go_wp2_with (first | (go_at_call 142; (with_reducible refine (c1.out _).mono ?_); rintro e w' ⟨rfl, rfl⟩) | (go_at_call 75; (with_reducible refine (c2.out _).mono ?_); rintro e w' ⟨rfl, rfl⟩) | (go_at_call 75; (with_reducible refine (c4.out _).mono ?_); rintro e w' ⟨rfl, rfl⟩) | (go_at_call 76; (with_reducible refine (c3.out _ H0.out).mono ?_); rintro e w3 ⟨rfl, hb3⟩; obtain ⟨hc3, hf3⟩ := bcell hb3; have hz3 : w.heap.size < w3.heap.size := by have := hb3.size; (try simp at this); omega))
    go_ret
    exact ⟨ret_int hE.symm, H0.out⟩
  have c4 := Lib.hid (fun W => between_t mn 0 255 W t4.1 t4.2)
  rw [if_neg (by omega)] at hE
  clear t3 t4
  by_cases t4 : 256 < tx.size
  case pos =>
    rw [if_pos (by omega)] at hE
    have t4' : (256 : Int) < (tx.size : Nat) := by omega
    clear t4
    go_enter Tryz.func104, Tryz.ntmps104
    go_wp2_with (first | (go_at_call 142; (with_reducible refine (c1.out _).mono ?_); rintro e w' ⟨rfl, rfl⟩) | (go_at_call 75; (with_reducible refine (c2.out _).mono ?_); rintro e w' ⟨rfl, rfl⟩) | (go_at_call 75; (with_reducible refine (c4.out _).mono ?_); rintro e w' ⟨rfl, rfl⟩) | (go_at_call 76; (with_reducible refine (c3.out _ H0.out).mono ?_); rintro e w3 ⟨rfl, hb3⟩; obtain ⟨hc3, hf3⟩ := bcell hb3; have hz3 : w.heap.size < w3.heap.size := by have := hb3.size; (try simp at this); omega))
    go_ret
    exact ⟨ret_int hE.symm, H0.out⟩
  have t4' : decide ((256 : Int) < (tx.size : Nat)) = false := by simp; omega
  by_cases t5 : 6 < ex.length
  case pos =>
    rw [if_pos (by omega)] at hE
    have t5' : (6 : Int) < (ex.length : Nat) := by omega
    clear t5
    go_enter Tryz.func104, Tryz.ntmps104
    go_wp2_with (first | (go_at_call 142; (with_reducible refine (c1.out _).mono ?_); rintro e w' ⟨rfl, rfl⟩) | (go_at_call 75; (with_reducible refine (c2.out _).mono ?_); rintro e w' ⟨rfl, rfl⟩) | (go_at_call 75; (with_reducible refine (c4.out _).mono ?_); rintro e w' ⟨rfl, rfl⟩) | (go_at_call 76; (with_reducible refine (c3.out _ H0.out).mono ?_); rintro e w3 ⟨rfl, hb3⟩; obtain ⟨hc3, hf3⟩ := bcell hb3; have hz3 : w.heap.size < w3.heap.size := by have := hb3.size; (try simp at this); omega))
    go_ret
    exact ⟨ret_int hE.symm, H0.out⟩
  have t5' : decide ((6 : Int) < (ex.length : Nat)) = false := by simp; omega
  by_cases t6 : 6 < im.length
  case pos =>
    rw [if_pos (by omega)] at hE
    have t6' : (6 : Int) < (im.length : Nat) := by omega
    clear t6
    go_enter Tryz.func104, Tryz.ntmps104
    go_wp2_with (first | (go_at_call 142; (with_reducible refine (c1.out _).mono ?_); rintro e w' ⟨rfl, rfl⟩) | (go_at_call 75; (with_reducible refine (c2.out _).mono ?_); rintro e w' ⟨rfl, rfl⟩) | (go_at_call 75; (with_reducible refine (c4.out _).mono ?_); rintro e w' ⟨rfl, rfl⟩) | (go_at_call 76; (with_reducible refine (c3.out _ H0.out).mono ?_); rintro e w3 ⟨rfl, hb3⟩; obtain ⟨hc3, hf3⟩ := bcell hb3; have hz3 : w.heap.size < w3.heap.size := by have := hb3.size; (try simp at this); omega))
    go_ret
    exact ⟨ret_int hE.symm, H0.out⟩
  have t6' : decide ((6 : Int) < (im.length : Nat)) = false := by simp; omega
  by_cases t7 : 12 < pa.length
  case pos =>
    rw [if_pos (by omega)] at hE
    have t7' : (12 : Int) < (pa.length : Nat) := by omega
    clear t7
    go_enter Tryz.func104, Tryz.ntmps104
    go_wp2_with (first | (go_at_call 142; (with_reducible refine (c1.out _).mono ?_); rintro e w' ⟨rfl, rfl⟩) | (go_at_call 75; (with_reducible refine (c2.out _).mono ?_); rintro e w' ⟨rfl, rfl⟩) | (go_at_call 75; (with_reducible refine (c4.out _).mono ?_); rintro e w' ⟨rfl, rfl⟩) | (go_at_call 76; (with_reducible refine (c3.out _ H0.out).mono ?_); rintro e w3 ⟨rfl, hb3⟩; obtain ⟨hc3, hf3⟩ := bcell hb3; have hz3 : w.heap.size < w3.heap.size := by have := hb3.size; (try simp at this); omega))
    go_ret
    exact ⟨ret_int hE.symm, H0.out⟩
  have t7' : decide ((12 : Int) < (pa.length : Nat)) = false := by simp; omega
  rw [if_neg (by omega)] at hE
  clear t4 t5 t6 t7
  obtain ⟨r4, tm, hr4⟩ : ∃ r4 : Int, Int.tmod (tx.size : Int) 4 = r4 ∧ r4 = ((tx.size % 4 : Nat) : Int) := ⟨_, rfl, by rw [Int.tmod_eq_emod_of_nonneg (by omega)]; omega⟩
  by_cases t8 : tx.size = 0
  case pos =>
    rw [if_pos (.inl t8)] at hE
    have t8' : ((tx.size : Int) == 0) = true := by simp [t8]
    clear t8 tm hr4
    go_enter Tryz.func104, Tryz.ntmps104
    go_wp2_with (first | (go_at_call 142; (with_reducible refine (c1.out _).mono ?_); rintro e w' ⟨rfl, rfl⟩) | (go_at_call 75; (with_reducible refine (c2.out _).mono ?_); rintro e w' ⟨rfl, rfl⟩) | (go_at_call 75; (with_reducible refine (c4.out _).mono ?_); rintro e w' ⟨rfl, rfl⟩) | (go_at_call 76; (with_reducible refine (c3.out _ H0.out).mono ?_); rintro e w3 ⟨rfl, hb3⟩; obtain ⟨hc3, hf3⟩ := bcell hb3; have hz3 : w.heap.size < w3.heap.size := by have := hb3.size; (try simp at this); omega))
    go_ret
    exact ⟨ret_int hE.symm, H0.out⟩
  have t8' : ((tx.size : Int) == 0) = false := by simp [t8]
  by_cases t9 : tx.size % 4 = 0
  case neg =>
    rw [if_pos (.inr t9)] at hE
    have t9' : (0 : Int) < r4 := by omega
    clear t8 t9 hr4
    go_enter Tryz.func104, Tryz.ntmps104
    go_wp2_with (first | (go_at_call 142; (with_reducible refine (c1.out _).mono ?_); rintro e w' ⟨rfl, rfl⟩) | (go_at_call 75; (with_reducible refine (c2.out _).mono ?_); rintro e w' ⟨rfl, rfl⟩) | (go_at_call 75; (with_reducible refine (c4.out _).mono ?_); rintro e w' ⟨rfl, rfl⟩) | (go_at_call 76; (with_reducible refine (c3.out _ H0.out).mono ?_); rintro e w3 ⟨rfl, hb3⟩; obtain ⟨hc3, hf3⟩ := bcell hb3; have hz3 : w.heap.size < w3.heap.size := by have := hb3.size; (try simp at this); omega))
    go_ret
    exact ⟨ret_int hE.symm, H0.out⟩
  rw [if_neg (by omega)] at hE
  obtain rfl : r4 = 0 := by omega
  clear t8 t9 hr4
  by_cases u1 : expErr [] tx.size ex = 0
  case neg =>
    rw [if_pos u1] at hE
    generalize expErr [] tx.size ex = ee at *
    have u1' : (ee != 0) = true := by simp [u1]
    clear u1
    go_enter Tryz.func104, Tryz.ntmps104
    go_wp2_with (first | (go_at_call 142; (with_reducible refine (c1.out _).mono ?_); rintro e w' ⟨rfl, rfl⟩) | (go_at_call 75; (with_reducible refine (c2.out _).mono ?_); rintro e w' ⟨rfl, rfl⟩) | (go_at_call 75; (with_reducible refine (c4.out _).mono ?_); rintro e w' ⟨rfl, rfl⟩) | (go_at_call 76; (with_reducible refine (c3.out _ H0.out).mono ?_); rintro e w3 ⟨rfl, hb3⟩; obtain ⟨hc3, hf3⟩ := bcell hb3; have hz3 : w.heap.size < w3.heap.size := by have := hb3.size; (try simp at this); omega))
    go_ret
    exact ⟨ret_int hE.symm, H0.out.trans (hb3.mono (by omega))⟩
  rw [if_neg (by omega)] at hE
  rw [u1] at c3
  have HE := Lib.hid hE
  clear u1 hE
  go_enter Tryz.func104, Tryz.ntmps104
  go_wp2_with (first | (go_at_call 142; (with_reducible refine (c1.out _).mono ?_); rintro e w' ⟨rfl, rfl⟩) | (go_at_call 75; (with_reducible refine (c2.out _).mono ?_); rintro e w' ⟨rfl, rfl⟩) | (go_at_call 75; (with_reducible refine (c4.out _).mono ?_); rintro e w' ⟨rfl, rfl⟩) | (go_at_call 76; (with_reducible refine (c3.out _ H0.out).mono ?_); rintro e w3 ⟨rfl, hb3⟩; obtain ⟨hc3, hf3⟩ := bcell hb3; have hz3 : w.heap.size < w3.heap.size := by have := hb3.size; (try simp at this); omega))
  go_loopw [4] (fun i wr => ∃ j : Nat, j ≤ im.length ∧ i = .int .i64 j ∧ impsFrom im j = impsErr [] im ∧ Below (w.heap.size + 1) w0 wr) (fun i _ => im.length - (intOf i).toNat)
  case atStart => exact ⟨0, by omega, rfl, rfl, hb3.mono (by have := HZ.out; omega)⟩
  case round =>
    obtain ⟨j, hj, rfl, hI, hb⟩ := hrel
    have HI := Lib.hid hI
    have HB := Lib.hid hb
    clear hI
    have f3 := (hb.cell (p := ⟨w.heap.size, 3, none⟩) (by simp)).trans g3
    have f5 := (hb.cell (p := ⟨w.heap.size, 5, none⟩) (by simp)).trans g5
    have f6 := (hb.cell (p := ⟨w.heap.size, 6, none⟩) (by simp)).trans g6
    have hzr : w.heap.size < wr.heap.size := by have := hb.size; have := HZ.out; omega
    by_cases hlt : j < im.length
    · have hlt' : (j : Int) < im.length := by omega
      obtain ⟨ad, rfl, hab, h0, h1, h2, h3⟩ := imp_at HIM.out.1 (H0.out.trans (hb.mono (by omega))) j hlt
      obtain ⟨hsz1, hsz2⟩ := HIM.out.2.2 im[j] (List.getElem_mem _)
      have d1 := Lib.hid (fun W => CheckImport_any (im[j]'hlt).mod (im[j]'hlt).name (im[j]'hlt).major (im[j]'hlt).minor W hsz1 hsz2)
      obtain ⟨er, her⟩ : ∃ er, er = impErr (im[j]'hlt) := ⟨_, rfl⟩
      have her' : er = impErr ⟨(im[j]'hlt).mod, (im[j]'hlt).name, (im[j]'hlt).major, (im[j]'hlt).minor⟩ := her
      rw [← her'] at d1
      have HER := Lib.hid her
      clear hb her her'
      by_cases h5 : er = 1
      · obtain rfl := h5
        have e1 := Lib.hid ((impsFrom_form hlt HER.out.symm).symm.trans HI.out)
        have e2 := Lib.hid (show E = 1 by rw [HE.out, ← e1.out]; rfl)
        go_wp2_with (first | (go_at_call 178; (with_reducible refine (d1.out _).mono ?_); rintro e w4 ⟨rfl, hb4⟩; obtain ⟨hc4, hf4⟩ := bcell hb4; have hz4 : w.heap.size < w4.heap.size := by have := hb4.size; (try simp at this); omega))
        go_ret
        exact ⟨ret_int e2.out.symm, (H0.out.trans (HB.out.mono (by omega))).trans (hb4.mono (by omega))⟩
      · have h5' : (er == 1) = false := by simp [h5]
        have H5 := Lib.hid (show impErr (im[j]'hlt) ≠ 1 by rw [← HER.out]; exact h5)
        clear h5
        go_wp2_with (first | (go_at_call 178; (with_reducible refine (d1.out _).mono ?_); rintro e w4 ⟨rfl, hb4⟩; obtain ⟨hc4, hf4⟩ := bcell hb4; have hz4 : w.heap.size < w4.heap.size := by have := hb4.size; (try simp at this); omega))
        go_loopw [6] (fun i wi => ∃ k : Nat, k ≤ j ∧ i = .int .i64 k ∧ (∀ k' (hk : k' < im.length), k' < k → ¬ (im[k'].mod = im[j].mod ∧ im[k'].name = im[j].name)) ∧ Below (w.heap.size + 1) w0 wi) (fun i _ => j - (intOf i).toNat)
        case atStart => exact ⟨0, by omega, rfl, by omega, HB.out.trans (hb4.mono (by omega))⟩
        case round =>
          obtain ⟨k, hk, rfl, hK, hb2⟩ := hrel
          have HK := Lib.hid hK
          have HB2 := Lib.hid hb2
          clear hK
          have f5 := (hb2.cell (p := ⟨w.heap.size, 5, none⟩) (by simp)).trans g5
          obtain ⟨_, ead, _, i0, i1, _, _⟩ := imp_at HIM.out.1 (H0.out.trans (hb2.mono (by omega))) j hlt
          obtain rfl := Option.some.inj ead
          by_cases hkj : k < j
          · have hkl : k < im.length := by omega
            have hkj' : (k : Int) < j := by omega
            have hkl' : (k : Int) < im.length := by omega
            obtain ⟨_, ead, _, p0, p1, _, _⟩ := imp_at HIM.out.1 (H0.out.trans (hb2.mono (by omega))) k hkl
            obtain rfl := Option.some.inj ead
            clear hb2 ead
            by_cases q1 : im[k].mod = im[j].mod
            · by_cases q2 : im[k].name = im[j].name
              · have e1 := Lib.hid ((impsFrom_twice hlt H5.out hkl hkj ⟨q1, q2⟩).symm.trans HI.out)
                have e2 := Lib.hid (show E = 6 by rw [HE.out, ← e1.out]; rfl)
                have r1 := str_eq q1
                have r2 := str_eq q2
                clear q1 q2
                go_wp2_with fail
                go_quiet (fail)
                go_wp2_with fail
                go_ret
                exact ⟨ret_int e2.out.symm, H0.out.trans ((below_drewN HB2.out _).mono (by omega))⟩
              · have HQ := Lib.hid (fun (hq : im[k].mod = im[j].mod ∧ im[k].name = im[j].name) => q2 hq.2)
                have r1 := str_eq q1
                have r2 := str_ne q2
                clear q1 q2
                go_wp2_with fail
                go_quiet (fail)
                go_wp2_with fail
                go_roundw
                case rel => exact ⟨k + 1, by omega, by go_num, fun k' h' hlt => by rcases Nat.lt_succ_iff_lt_or_eq.1 hlt with h | rfl; exact HK.out k' h' h; exact HQ.out, below_drewN HB2.out _⟩
                case measure => (simp [intOf]; try omega)
            · have HQ := Lib.hid (fun (hq : im[k].mod = im[j].mod ∧ im[k].name = im[j].name) => q1 hq.1)
              have r1 := str_ne q1
              clear q1
              go_wp2_with fail
              go_quiet (fail)
              go_wp2_with fail
              go_roundw
              case rel => exact ⟨k + 1, by omega, by go_num, fun k' h' hlt => by rcases Nat.lt_succ_iff_lt_or_eq.1 hlt with h | rfl; exact HK.out k' h' h; exact HQ.out, below_drewN HB2.out _⟩
              case measure => (simp [intOf]; try omega)
          · obtain rfl : k = j := by omega
            clear hb2 ead
            by_cases h6 : er = 0
            · obtain rfl := h6
              have e1 := Lib.hid ((impsFrom_next hlt HER.out.symm (fun k' h' hlt => HK.out k' h' hlt)).trans HI.out)
              go_wp2_with fail
              go_roundw
              case rel => exact ⟨k + 1, by omega, by go_num, e1.out, HB2.out⟩
              case measure => (simp [intOf]; try omega)
            · have h7 : er = 3 := by
                have := impErr_cases (im[k]'hlt); have := H5.out; rw [← HER.out] at *; omega
              obtain rfl := h7
              have e1 := Lib.hid ((impsFrom_range hlt HER.out.symm (fun k' h' hlt => HK.out k' h' hlt)).symm.trans HI.out)
              have e2 := Lib.hid (show E = 3 by rw [HE.out, ← e1.out]; rfl)
              clear h6
              go_wp2_with fail
              go_ret
              exact ⟨ret_int e2.out.symm, H0.out.trans (HB2.out.mono (by omega))⟩
    · have e1 := Lib.hid ((impsFrom_end hlt).symm.trans HI.out)
      have HE2 := Lib.hid (show E = patsErr tx.size im.length 0 pa by rw [HE.out, ← e1.out]; rfl)
      clear hb
      go_wp2_with fail
      go_loopw [7, 8] (fun e i wr => ∃ (j : Nat) (en : Int), j ≤ pa.length ∧ i = .int .i64 j ∧ e = .int .i64 en ∧ 0 ≤ en ∧ en ≤ 140737488351236 ∧ patsFrom tx.size im.length pa j en = E ∧ Below (w.heap.size + 1) w0 wr) (fun _ i _ => pa.length - (intOf i).toNat)
      case atStart => exact ⟨0, 0, by omega, rfl, rfl, by omega, by omega, HE2.out.symm, HB.out⟩
      case round =>
        obtain ⟨j, en, hj, rfl, rfl, he0, he1, hE, hb⟩ := hrel
        have HE := Lib.hid hE
        have HB := Lib.hid hb
        clear hE
        have f3 := (hb.cell (p := ⟨w.heap.size, 3, none⟩) (by simp)).trans g3
        have f5 := (hb.cell (p := ⟨w.heap.size, 5, none⟩) (by simp)).trans g5
        have f6 := (hb.cell (p := ⟨w.heap.size, 6, none⟩) (by simp)).trans g6
        have hzr : w.heap.size < wr.heap.size := by have := hb.size; have := HZ.out; omega
        by_cases hlt : j < pa.length
        · have hlt' : (j : Int) < pa.length := by omega
          obtain ⟨ad, rfl, hab, h0, h1, h2, h3⟩ := pat_at HPA.out.1 (H0.out.trans (hb.mono (by omega))) j hlt
          clear hb
          obtain ⟨p, hp⟩ : ∃ p, p = pa[j] := ⟨_, rfl⟩
          have he := Lib.hid (fun h => (patsFrom_err (z := tx.size) (ni := im.length) (e := en) hlt h).symm.trans HE.out)
          have hx := Lib.hid (fun h => (patsFrom_next (z := tx.size) (ni := im.length) (e := en) hlt h).trans HE.out)
          rw [← hp] at h0 h1 h2 h3 he hx
          have HP := Lib.hid hp
          clear hp
          obtain ⟨kd, at_, sy, ad_⟩ := p
          simp only at h0 h1 h2 h3
          obtain ⟨k, hk⟩ : ∃ k, k = widthOf kd := ⟨_, rfl⟩
          have c1 := Lib.hid (fun W => WidthOf_any kd W)
          rw [← hk] at c1
          have hkr := width_rng_ kd
          rw [← hk] at hkr
          have HK := Lib.hid hk
          clear hk
          have qk : wrap64 ((im.length : Int) - 1) = im.length - 1 := IntWalk.wrap64_in _ (by omega)
          have qz : wrap64 ((tx.size : Int) - k) = tx.size - k := IntWalk.wrap64_in _ (by omega)
          rcases hkr with h5 | ⟨h5, h6⟩
          · obtain rfl := h5
            have e1 := Lib.hid (patErr_kind (z := tx.size) (ni := im.length) (e := en) (p := ⟨kd, at_, sy, ad_⟩) HK.out.symm)
            have e2 := Lib.hid ((e1.out.symm).trans (he.out (by rw [e1.out]; omega)))
            go_wp2_with (first | (go_at_call 179; (with_reducible refine (c1.out _).mono ?_); rintro e w' ⟨rfl, rfl⟩))
            go_ret
            exact ⟨ret_int e2.out, H0.out.trans ((HB.out.mono (by omega)).trans ((Below.refl _ _).alloc (by omega) _))⟩
          · have hk0 : (k == 0) = false := by simp; omega
            have hkn := Lib.hid (show widthOf kd ≠ 0 by rw [← HK.out]; omega)
            have hrng := Lib.hid (fun h1 => (patErr_range (z := tx.size) (ni := im.length) (e := en) (p := ⟨kd, at_, sy, ad_⟩) hkn.out h1))
            have hst := Lib.hid (fun h1 h2 => (patErr_state (z := tx.size) (ni := im.length) (e := en) (p := ⟨kd, at_, sy, ad_⟩) hkn.out h1 h2))
            have hok := Lib.hid (fun h1 h2 => (patErr_ok (z := tx.size) (ni := im.length) (e := en) (p := ⟨kd, at_, sy, ad_⟩) hkn.out h1 h2))
            simp only [← HK.out] at hrng hst hok
            by_cases b1 : -1 ≤ sy ∧ sy ≤ im.length - 1
            · have c3 := Lib.hid (fun W => between_t sy (-1) (im.length - 1) W b1.1 b1.2)
              by_cases b2 : 0 ≤ ad_ ∧ ad_ ≤ 65535
              · have c4 := Lib.hid (fun W => between_t ad_ 0 65535 W b2.1 b2.2)
                by_cases b3 : 0 ≤ at_ ∧ at_ ≤ tx.size - k
                · have c5 := Lib.hid (fun W => between_t at_ 0 (tx.size - k) W b3.1 b3.2)
                  by_cases b5 : at_ < en
                  · have e1 := Lib.hid (hst.out (by omega) b5)
                    have e2 := Lib.hid ((e1.out.symm).trans (he.out (by rw [e1.out]; omega)))
                    clear b1 b2 b3
                    go_wp2_with (first | (go_at_call 179; (with_reducible refine (c1.out _).mono ?_); rintro e w' ⟨rfl, rfl⟩) | (go_at_call 75; (with_reducible refine (c3.out _).mono ?_); rintro e w' ⟨rfl, rfl⟩) | (go_at_call 75; (with_reducible refine (c4.out _).mono ?_); rintro e w' ⟨rfl, rfl⟩) | (go_at_call 75; (with_reducible refine (c5.out _).mono ?_); rintro e w' ⟨rfl, rfl⟩))
                    go_ret
                    exact ⟨ret_int e2.out, H0.out.trans ((HB.out.mono (by omega)).trans ((Below.refl _ _).alloc (by omega) _))⟩
                  · have b5' : decide (at_ < en) = false := by simp; omega
                    have e1 := Lib.hid (hok.out (by omega) b5)
                    have e2 := Lib.hid (hx.out e1.out)
                    have q3 := Lib.hid (show wrap64 (at_ + k) = at_ + k from IntWalk.wrap64_in _ (by omega))
                    have r1 := Lib.hid (show 0 ≤ at_ + k ∧ at_ + k ≤ 140737488351236 by omega)
                    clear b1 b2 b3 b5
                    go_wp2_with (first | (go_at_call 179; (with_reducible refine (c1.out _).mono ?_); rintro e w' ⟨rfl, rfl⟩) | (go_at_call 75; (with_reducible refine (c3.out _).mono ?_); rintro e w' ⟨rfl, rfl⟩) | (go_at_call 75; (with_reducible refine (c4.out _).mono ?_); rintro e w' ⟨rfl, rfl⟩) | (go_at_call 75; (with_reducible refine (c5.out _).mono ?_); rintro e w' ⟨rfl, rfl⟩))
                    go_roundw
                    case rel => exact ⟨j + 1, at_ + k, by omega, by go_num, by rw [q3.out], r1.out.1, r1.out.2, by rw [HK.out]; exact e2.out, HB.out.trans ((Below.refl _ _).alloc (by omega) _)⟩
                    case measure => (simp [intOf]; try omega)
                · have c5 := Lib.hid (fun W => between_f at_ 0 (tx.size - k) W (by omega))
                  have e1 := Lib.hid (hrng.out (by omega))
                  have e2 := Lib.hid ((e1.out.symm).trans (he.out (by rw [e1.out]; omega)))
                  clear b1 b2 b3
                  go_wp2_with (first | (go_at_call 179; (with_reducible refine (c1.out _).mono ?_); rintro e w' ⟨rfl, rfl⟩) | (go_at_call 75; (with_reducible refine (c3.out _).mono ?_); rintro e w' ⟨rfl, rfl⟩) | (go_at_call 75; (with_reducible refine (c4.out _).mono ?_); rintro e w' ⟨rfl, rfl⟩) | (go_at_call 75; (with_reducible refine (c5.out _).mono ?_); rintro e w' ⟨rfl, rfl⟩))
                  go_ret
                  exact ⟨ret_int e2.out, H0.out.trans ((HB.out.mono (by omega)).trans ((Below.refl _ _).alloc (by omega) _))⟩
              · have c4 := Lib.hid (fun W => between_f ad_ 0 65535 W (by omega))
                have e1 := Lib.hid (hrng.out (by omega))
                have e2 := Lib.hid ((e1.out.symm).trans (he.out (by rw [e1.out]; omega)))
                clear b1 b2
                go_wp2_with (first | (go_at_call 179; (with_reducible refine (c1.out _).mono ?_); rintro e w' ⟨rfl, rfl⟩) | (go_at_call 75; (with_reducible refine (c3.out _).mono ?_); rintro e w' ⟨rfl, rfl⟩) | (go_at_call 75; (with_reducible refine (c4.out _).mono ?_); rintro e w' ⟨rfl, rfl⟩))
                go_ret
                exact ⟨ret_int e2.out, H0.out.trans ((HB.out.mono (by omega)).trans ((Below.refl _ _).alloc (by omega) _))⟩
            · have c3 := Lib.hid (fun W => between_f sy (-1) (im.length - 1) W (by omega))
              have e1 := Lib.hid (hrng.out (by omega))
              have e2 := Lib.hid ((e1.out.symm).trans (he.out (by rw [e1.out]; omega)))
              clear b1
              go_wp2_with (first | (go_at_call 179; (with_reducible refine (c1.out _).mono ?_); rintro e w' ⟨rfl, rfl⟩) | (go_at_call 75; (with_reducible refine (c3.out _).mono ?_); rintro e w' ⟨rfl, rfl⟩))
              go_ret
              exact ⟨ret_int e2.out, H0.out.trans ((HB.out.mono (by omega)).trans ((Below.refl _ _).alloc (by omega) _))⟩
        · have e1 := Lib.hid ((patsFrom_end (z := tx.size) (ni := im.length) (e := en) hlt).symm.trans HE.out)
          clear hb
          go_wp2_with fail
          go_ret
          exact ⟨ret_int e1.out, H0.out.trans (HB.out.mono (by omega))⟩

end Go.Proofs.YtjiedaialianmaaGreat
end

section

namespace Go.Proofs.YtjiedaialianmaaGreat
open Go.RowKit

set_option maxHeartbeats 1000000 in
set_option maxRecDepth 100000 in
theorem Many_any (m : Mod) (w : World) (h : m.text.size ≤ big) :
    Calls Tryz.prog 164 #[m.v] w fun e w' => e = .returned (.int .i64 (manyOf m)) ∧ Below w.heap.size w w' := by
  unfold big at h
  have q1 : wrap64 ((m.text.size : Int) + 64) = m.text.size + 64 := IntWalk.wrap64_in _ (by omega)
  have q2 : wrap64 ((m.text.size : Int) + 64 - 1) = m.text.size + 64 - 1 := IntWalk.wrap64_in _ (by omega)
  have q3 : ((m.text.size : Int) + 64 - 1).tdiv 64 = manyOf m := by unfold manyOf; rw [Int.tdiv_eq_ediv_of_nonneg (by omega)]; omega
  have q4 : wrap64 (manyOf m) = manyOf m := by unfold manyOf; exact IntWalk.wrap64_in _ (by omega)
  go_enter Tryz.func164, Tryz.ntmps164
  go_wp2_with fail
  go_ret
  exact ⟨by simp_all, (Below.refl _ _).alloc (Nat.le_refl _) _⟩

set_option maxHeartbeats 1000000 in
set_option maxRecDepth 100000 in
theorem SizeOf_any (m : Mod) (w : World) (h : m.text.size ≤ big) :
    Calls Tryz.prog 107 #[m.v] w fun e w' => e = .returned (.int .i64 (manyOf m)) ∧ Below w.heap.size w w' := by
  unfold big at h
  obtain ⟨d, q1, q2⟩ : ∃ d : Int, (m.text.size : Int).tdiv 64 = d ∧ d = m.text.size / 64 := ⟨_, rfl, by rw [Int.tdiv_eq_ediv_of_nonneg (by omega)]⟩
  obtain ⟨r, q3, q4⟩ : ∃ r : Int, (m.text.size : Int).tmod 64 = r ∧ r = m.text.size % 64 := ⟨_, rfl, by rw [Int.tmod_eq_emod_of_nonneg (by omega)]⟩
  have q6 : wrap64 d = d := IntWalk.wrap64_in _ (by omega)
  have q5 : wrap64 (d + 1) = d + 1 := IntWalk.wrap64_in _ (by omega)
  have HM := Lib.hid (show manyOf m = if 0 < r then d + 1 else d by unfold manyOf; split <;> omega)
  clear q2 q4
  by_cases hr : 0 < r
  · have HM := Lib.hid (HM.out.trans (if_pos hr))
    go_enter Tryz.func107, Tryz.ntmps107
    go_wp2_with fail
    go_ret
    exact ⟨ret_int (by rw [HM.out]; first | rfl | exact q5), (Below.refl _ _).alloc (Nat.le_refl _) _⟩
  · have HM := Lib.hid (HM.out.trans (if_neg hr))
    have hr' : decide (0 < r) = false := by simp; omega
    clear hr
    go_enter Tryz.func107, Tryz.ntmps107
    go_wp2_with fail
    go_ret
    exact ⟨ret_int (by first | exact HM.out.symm | exact q6.trans HM.out.symm), (Below.refl _ _).alloc (Nat.le_refl _) _⟩

set_option maxHeartbeats 2000000 in
set_option maxRecDepth 100000 in
/-- resolve.Modules, for whatever function value says yes or no to one that is right -/
theorem Modules_any (A : Option Addr) (c : Nat) (l : List Plc) (g : Nat) (q : Plc → Bool) (w : World) (eg : ∀ args w, (callFunc g args).run Tryz.prog w = .ok (.enter g args) w) (h : PlsOk w A l)
    (hq : ∀ x ∈ l, modErr x.m = 0 → ∀ W, Calls Tryz.prog g #[x.v] W fun e w' => e = .returned (.bool (q x)) ∧ Below W.heap.size W w') :
    Calls Tryz.prog 198 #[.slice A l.length c, .func (.func g) #[] #[]] w fun e w' => e = .returned (.int .i64 (modsAll q l)) ∧ Below w.heap.size w w' := by
  have hl := h.len
  unfold big at hl
  have HP := Lib.hid h
  have HQ := Lib.hid hq
  clear h hq
  by_cases h8 : 8 < l.length
  · have e1 := Lib.hid (show 2 = modsAll q l by unfold modsAll; rw [if_pos h8])
    have h8' : (8 : Int) < l.length := by omega
    go_enter Tryz.func198, Tryz.ntmps198
    go_wp2_with fail
    go_ret
    exact ⟨ret_int e1.out, Below.refl _ _⟩
  have h8' : decide ((8 : Int) < l.length) = false := by simp; omega
  have e0 := Lib.hid (show modsErr q l = modsAll q l by unfold modsAll; rw [if_neg h8])
  go_enter Tryz.func198, Tryz.ntmps198
  go_wp2_with fail
  go_loopw [13] (fun i wr => ∃ j : Nat, j ≤ l.length ∧ i = .int .i64 j ∧ modsFrom q l j = modsAll q l ∧ Below w.heap.size w wr) (fun i _ => l.length - (intOf i).toNat)
  case atStart => exact ⟨0, by omega, rfl, e0.out, Below.refl _ _⟩
  case round =>
    obtain ⟨j, hj, rfl, hE, hb⟩ := hrel
    have HE := Lib.hid hE
    have HB := Lib.hid hb
    clear hE
    by_cases hlt : j < l.length
    · have hlt' : (j : Int) < l.length := by omega
      obtain ⟨ad, rfl, hab, h0, h1, h2, h3, h4, h5, h6, h7⟩ := plc_at HP.out.row hb j hlt
      have hwz := hb.size
      have hmo := HP.out.each l[j] (List.getElem_mem _)
      have c1 := Lib.hid (fun W (hbW : Below w.heap.size w W) => Check_any (l[j]'hlt).m W (hmo.below hbW))
      obtain ⟨er, her⟩ : ∃ er, er = modErr (l[j]'hlt).m := ⟨_, rfl⟩
      rw [← her] at c1
      have HER := Lib.hid her
      have HQJ := Lib.hid (fun h0 => HQ.out (l[j]'hlt) (List.getElem_mem _) h0)
      have HX := Lib.hid ((HB.out).trans ((Below.refl w.heap.size wr).alloc (by omega) (.cells #[.string l[j].m.name, iv l[j].m.major, iv l[j].m.minor, .string l[j].m.text, .slice l[j].m.eA l[j].m.ex.length l[j].m.eC, .slice l[j].m.iA l[j].m.im.length l[j].m.iC, .slice l[j].m.pA l[j].m.pa.length l[j].m.pC, iv l[j].first] 83)))
      clear hb her hmo
      by_cases h5e : er = 0
      · obtain rfl := h5e
        have c2 := Lib.hid (HQJ.out HER.out.symm)
        obtain ⟨bq, hbq⟩ : ∃ bq, bq = q (l[j]'hlt) := ⟨_, rfl⟩
        rw [← hbq] at c2
        have HBQ := Lib.hid hbq
        clear hbq
        cases bq
        · have e1 := Lib.hid ((modsFrom_no hlt HER.out.symm HBQ.out.symm).symm.trans HE.out)
          go_wp2_with (first | (go_at_call 113; refine (c1.out _ HX.out).mono ?_; rintro e w2 ⟨rfl, hb2⟩; obtain ⟨hc2, hf2⟩ := bcell hb2; have hz2 : wr.heap.size < w2.heap.size := by have := hb2.size; simp at this; omega) | (go_at_fn g; refine (c2.out _).mono ?_; rintro e w3 ⟨rfl, hb3⟩))
          go_ret
          exact ⟨ret_int e1.out, (HX.out.trans (hb2.mono (by simp; omega))).trans (hb3.mono (by omega))⟩
        · have e1 := Lib.hid ((modsFrom_next hlt HER.out.symm HBQ.out.symm).trans HE.out)
          go_wp2_with (first | (go_at_call 113; refine (c1.out _ HX.out).mono ?_; rintro e w2 ⟨rfl, hb2⟩; obtain ⟨hc2, hf2⟩ := bcell hb2; have hz2 : wr.heap.size < w2.heap.size := by have := hb2.size; simp at this; omega) | (go_at_fn g; refine (c2.out _).mono ?_; rintro e w3 ⟨rfl, hb3⟩))
          go_roundw
          case rel => exact ⟨j + 1, by omega, by go_num, e1.out, (HX.out.trans (hb2.mono (by simp; omega))).trans (hb3.mono (by omega))⟩
          case measure => (simp [intOf]; try omega)
      · have e1 := Lib.hid ((modsFrom_err (q := q) hlt (by rw [← HER.out]; exact h5e)).symm.trans HE.out)
        have h5' : (er != 0) = true := by simp [h5e]
        clear h5e
        go_wp2_with (go_at_call 113; refine (c1.out _ HX.out).mono ?_; rintro e w2 ⟨rfl, hb2⟩)
        go_ret
        exact ⟨ret_int (HER.out.trans e1.out), HX.out.trans (hb2.mono (by simp; omega))⟩
    · have e1 := Lib.hid ((modsFrom_end (q := q) hlt).symm.trans HE.out)
      go_wp2_with fail
      go_ret
      exact ⟨ret_int e1.out, HB.out⟩

set_option maxHeartbeats 2000000 in
set_option maxRecDepth 100000 in
theorem CheckModules_any (A : Option Addr) (c : Nat) (l : List Plc) (first whole : Bool) (w : World) (h : PlsOk w A l) :
    Calls Tryz.prog 229 #[.slice A l.length c, .bool first, .bool whole] w fun e w' => e = .returned (.int .i64 (modsAll (refQ first whole) l)) ∧ Below w.heap.size w w' := by
  have hl := h.len
  unfold big at hl
  have HP := Lib.hid h
  clear h
  obtain ⟨q, hq⟩ : ∃ q, q = refQ first whole := ⟨_, rfl⟩
  rw [← hq]
  have HQ := Lib.hid hq
  clear hq
  by_cases h8 : 8 < l.length
  · have e1 := Lib.hid (show 2 = modsAll q l by unfold modsAll; rw [if_pos h8])
    have h8' : (8 : Int) < l.length := by omega
    go_enter Tryz.func229, Tryz.ntmps229
    go_wp2_with fail
    go_ret
    exact ⟨ret_int e1.out, Below.refl _ _⟩
  have h8' : decide ((8 : Int) < l.length) = false := by simp; omega
  have e0 := Lib.hid (show modsErr q l = modsAll q l by unfold modsAll; rw [if_neg h8])
  go_enter Tryz.func229, Tryz.ntmps229
  go_wp2_with fail
  go_loopw [7] (fun i wr => ∃ j : Nat, j ≤ l.length ∧ i = .int .i64 j ∧ modsFrom q l j = modsAll q l ∧ Below w.heap.size w wr) (fun i _ => l.length - (intOf i).toNat)
  case atStart => exact ⟨0, by omega, rfl, e0.out, Below.refl _ _⟩
  case round =>
    obtain ⟨j, hj, rfl, hE, hb⟩ := hrel
    have HE := Lib.hid hE
    have HB := Lib.hid hb
    clear hE
    by_cases hlt : j < l.length
    · have hlt' : (j : Int) < l.length := by omega
      obtain ⟨ad, rfl, hab, h0, h1, h2, h3, h4, h5, h6, h7⟩ := plc_at HP.out.row hb j hlt
      have hwz := hb.size
      have hmo := HP.out.each l[j] (List.getElem_mem _)
      have c1 := Lib.hid (fun W (hbW : Below w.heap.size w W) => CheckModule_any (l[j]'hlt).m W (hmo.below hbW))
      have c2 := Lib.hid (fun W => SizeOf_any (l[j]'hlt).m W hmo.text)
      obtain ⟨er, her⟩ : ∃ er, er = modErr (l[j]'hlt).m := ⟨_, rfl⟩
      rw [← her] at c1
      have HER := Lib.hid her
      -- all cells of the row, behind whatever comes
      have HK := Lib.hid (fun W (hbW : Below w.heap.size w W) => plc_at HP.out.row hbW j hlt)
      clear hb her hmo
      by_cases h5e : er = 0
      · obtain rfl := h5e
        have hme := modErr_facts HER.out.symm
        have hmr := Lib.hid (show 0 ≤ manyOf l[j].m ∧ manyOf l[j].m ≤ 4 by unfold manyOf; omega)
        clear hme
        obtain ⟨bq, hbq⟩ : ∃ bq, bq = q (l[j]'hlt) := ⟨_, rfl⟩
        have HBQ := Lib.hid hbq
        have hd : bq = (!first || (decide (0 ≤ l[j].first) && decide (l[j].first ≤ 16 - (if whole then manyOf l[j].m else 1)))) := by rw [hbq, HQ.out]; rfl
        clear hbq
        obtain ⟨mz, hmz⟩ : ∃ mz, mz = manyOf (l[j]'hlt).m := ⟨_, rfl⟩
        rw [← hmz] at c2 hmr hd
        have q0 : wrap64 (16 - mz) = 16 - mz := by have := hmr.out; exact IntWalk.wrap64_in _ (by omega)
        have c3 := Lib.hid (fun W => between_any l[j].first 0 (16 - (if whole then mz else 1)) W)
        have HD := Lib.hid hd
        clear hmz hd
        have e1 := Lib.hid (fun (hf : bq = false) => (modsFrom_no hlt HER.out.symm (HBQ.out.symm.trans hf)).symm.trans HE.out)
        have e2 := Lib.hid (fun (hf : bq = true) => (modsFrom_next hlt HER.out.symm (HBQ.out.symm.trans hf)).trans HE.out)
        cases first
        · have e3 := Lib.hid (e2.out (by rw [HD.out]; rfl))
          cases whole
          · go_wp2_with (go_at_call 104; refine (c1.out _ HB.out).mono ?_; rintro e w2 ⟨rfl, hb2⟩)
            go_roundw
            case rel => exact ⟨j + 1, by omega, by go_num, e3.out, HB.out.trans (hb2.mono (by omega))⟩
            case measure => (simp [intOf]; try omega)
          · go_wp2_with (first | (go_at_call 104; refine (c1.out _ HB.out).mono ?_; rintro e w2 ⟨rfl, hb2⟩; obtain ⟨_, ead, _, k0, k1, k2, k3, k4, k5, k6, k7⟩ := HK.out _ (HB.out.trans (hb2.mono (by omega))); obtain rfl := Option.some.inj ead; have hz2 := hb2.size) | (go_at_call 107; refine (c2.out _).mono ?_; rintro e w3 ⟨rfl, hb3⟩))
            go_roundw
            case rel => exact ⟨j + 1, by omega, by go_num, e3.out, (HB.out.trans (hb2.mono (by omega))).trans (hb3.mono (by omega))⟩
            case measure => (simp [intOf]; try omega)
        · cases whole
          · rw [if_neg (by simp)] at c3
            have hd : bq = (decide (0 ≤ l[j].first) && decide (l[j].first ≤ 16 - 1)) := by rw [HD.out]; simp
            rw [← hd] at c3
            clear hd
            cases bq
            · have e3 := Lib.hid (e1.out rfl)
              go_wp2_with (first | (go_at_call 104; refine (c1.out _ HB.out).mono ?_; rintro e w2 ⟨rfl, hb2⟩; obtain ⟨_, ead, _, k0, k1, k2, k3, k4, k5, k6, k7⟩ := HK.out _ (HB.out.trans (hb2.mono (by omega))); obtain rfl := Option.some.inj ead; have hz2 := hb2.size) | (go_at_call 75; refine (c3.out _).mono ?_; rintro e w' ⟨rfl, rfl⟩))
              go_ret
              exact ⟨ret_int e3.out, HB.out.trans (hb2.mono (by omega))⟩
            · have e3 := Lib.hid (e2.out rfl)
              go_wp2_with (first | (go_at_call 104; refine (c1.out _ HB.out).mono ?_; rintro e w2 ⟨rfl, hb2⟩; obtain ⟨_, ead, _, k0, k1, k2, k3, k4, k5, k6, k7⟩ := HK.out _ (HB.out.trans (hb2.mono (by omega))); obtain rfl := Option.some.inj ead; have hz2 := hb2.size) | (go_at_call 75; refine (c3.out _).mono ?_; rintro e w' ⟨rfl, rfl⟩))
              go_roundw
              case rel => exact ⟨j + 1, by omega, by go_num, e3.out, HB.out.trans (hb2.mono (by omega))⟩
              case measure => (simp [intOf]; try omega)
          · rw [if_pos rfl] at c3
            have hd : bq = (decide (0 ≤ l[j].first) && decide (l[j].first ≤ 16 - mz)) := by rw [HD.out]; simp
            rw [← hd] at c3
            clear hd
            cases bq
            · have e3 := Lib.hid (e1.out rfl)
              go_wp2_with (first | (go_at_call 104; refine (c1.out _ HB.out).mono ?_; rintro e w2 ⟨rfl, hb2⟩; obtain ⟨_, ead, _, k0, k1, k2, k3, k4, k5, k6, k7⟩ := HK.out _ (HB.out.trans (hb2.mono (by omega))); obtain rfl := Option.some.inj ead; have hz2 := hb2.size) | (go_at_call 107; refine (c2.out _).mono ?_; rintro e w3 ⟨rfl, hb3⟩; obtain ⟨_, ead, _, k0, k1, k2, k3, k4, k5, k6, k7⟩ := HK.out _ ((HB.out.trans (hb2.mono (by omega))).trans (hb3.mono (by omega))); obtain rfl := Option.some.inj ead) | (go_at_call 75; refine (c3.out _).mono ?_; rintro e w' ⟨rfl, rfl⟩))
              go_ret
              exact ⟨ret_int e3.out, (HB.out.trans (hb2.mono (by omega))).trans (hb3.mono (by omega))⟩
            · have e3 := Lib.hid (e2.out rfl)
              go_wp2_with (first | (go_at_call 104; refine (c1.out _ HB.out).mono ?_; rintro e w2 ⟨rfl, hb2⟩; obtain ⟨_, ead, _, k0, k1, k2, k3, k4, k5, k6, k7⟩ := HK.out _ (HB.out.trans (hb2.mono (by omega))); obtain rfl := Option.some.inj ead; have hz2 := hb2.size) | (go_at_call 107; refine (c2.out _).mono ?_; rintro e w3 ⟨rfl, hb3⟩; obtain ⟨_, ead, _, k0, k1, k2, k3, k4, k5, k6, k7⟩ := HK.out _ ((HB.out.trans (hb2.mono (by omega))).trans (hb3.mono (by omega))); obtain rfl := Option.some.inj ead) | (go_at_call 75; refine (c3.out _).mono ?_; rintro e w' ⟨rfl, rfl⟩))
              go_roundw
              case rel => exact ⟨j + 1, by omega, by go_num, e3.out, (HB.out.trans (hb2.mono (by omega))).trans (hb3.mono (by omega))⟩
              case measure => (simp [intOf]; try omega)
      · have e1 := Lib.hid ((modsFrom_err (q := q) hlt (by rw [← HER.out]; exact h5e)).symm.trans HE.out)
        have h5' : (er != 0) = true := by simp [h5e]
        clear h5e
        go_wp2_with (go_at_call 104; refine (c1.out _ HB.out).mono ?_; rintro e w2 ⟨rfl, hb2⟩)
        go_ret
        exact ⟨ret_int (HER.out.trans e1.out), HB.out.trans (hb2.mono (by omega))⟩
    · have e1 := Lib.hid ((modsFrom_end (q := q) hlt).symm.trans HE.out)
      go_wp2_with fail
      go_ret
      exact ⟨ret_int e1.out, HB.out⟩

set_option maxHeartbeats 2000000 in
set_option maxRecDepth 100000 in
theorem Kernel_any (k : Krn) (w : World) (h : k.ok w) :
    Calls Tryz.prog 84 #[k.v] w fun e w' => e = .returned (.int .i64 (krnErr k)) ∧ Below w.heap.size w w' := by
  obtain ⟨⟨hr, hl, hs⟩⟩ := h
  have HR := Lib.hid hr
  have HS := Lib.hid hs
  have HL := Lib.hid hl
  unfold big at hl
  obtain ⟨w0, hw0⟩ : ∃ w0, w0 = w.alloc (.cells #[.int .i64 k.major, .int .i64 k.minor, .slice k.eA k.ex.length k.eC] 24) := ⟨_, rfl⟩
  obtain ⟨g0, g1, g2, hz, hb0⟩ := box3 hw0
  have hz0 : w.heap.size < w0.heap.size := by omega
  have H0 := Lib.hid hb0
  have hw0' := hw0.symm
  clear hw0 hb0 hr hs
  obtain ⟨E, hE⟩ : ∃ E, E = krnErr k := ⟨_, rfl⟩
  rw [← hE]
  have hke : krnErr k = if k.major < 0 ∨ 255 < k.major ∨ k.minor < 0 ∨ 255 < k.minor then 3 else if 8 < k.ex.length then 2 else expErr [] 4096 k.ex := rfl
  rw [hke] at hE
  clear hke
  have c3 := Lib.hid (MExports_any k.eA k.eC k.ex 4096 w0 ⟨HR.out.below H0.out, HL.out, HS.out⟩ (by omega) (by unfold big; omega))
  by_cases t1 : 0 ≤ k.major ∧ k.major ≤ 255
  · have c1 := Lib.hid (fun W => (rwithin_any k.major 0 255 W).mono fun _ _ h => (⟨h.1.trans (ret_bool (by simp; omega)), h.2⟩ : _ = Ending.returned (.bool true) ∧ _))
    by_cases t2 : 0 ≤ k.minor ∧ k.minor ≤ 255
    · have c2 := Lib.hid (fun W => (rwithin_any k.minor 0 255 W).mono fun _ _ h => (⟨h.1.trans (ret_bool (by simp; omega)), h.2⟩ : _ = Ending.returned (.bool true) ∧ _))
      rw [if_neg (by omega)] at hE
      clear t1 t2
      by_cases t3 : 8 < k.ex.length
      · rw [if_pos t3] at hE
        have t3' : (8 : Int) < k.ex.length := by omega
        clear t3
        go_enter Tryz.func84, Tryz.ntmps84
        go_wp2_with (first | (go_at_call 153; (with_reducible refine (c1.out _).mono ?_); rintro e w' ⟨rfl, rfl⟩) | (go_at_call 153; (with_reducible refine (c2.out _).mono ?_); rintro e w' ⟨rfl, rfl⟩))
        go_ret
        exact ⟨ret_int hE.symm, H0.out⟩
      · rw [if_neg t3] at hE
        have t3' : decide ((8 : Int) < k.ex.length) = false := by simp; omega
        clear t3
        go_enter Tryz.func84, Tryz.ntmps84
        go_wp2_with (first | (go_at_call 153; (with_reducible refine (c1.out _).mono ?_); rintro e w' ⟨rfl, rfl⟩) | (go_at_call 153; (with_reducible refine (c2.out _).mono ?_); rintro e w' ⟨rfl, rfl⟩) | (go_at_call 154; (with_reducible refine (c3.out).mono ?_); rintro e w3 ⟨rfl, hb3⟩))
        go_ret
        exact ⟨ret_int hE.symm, H0.out.trans (hb3.mono (by omega))⟩
    · have c2 := Lib.hid (fun W => (rwithin_any k.minor 0 255 W).mono fun _ _ h => (⟨h.1.trans (ret_bool (by simp; omega)), h.2⟩ : _ = Ending.returned (.bool false) ∧ _))
      rw [if_pos (by omega)] at hE
      clear t1 t2
      go_enter Tryz.func84, Tryz.ntmps84
      go_wp2_with (first | (go_at_call 153; (with_reducible refine (c1.out _).mono ?_); rintro e w' ⟨rfl, rfl⟩) | (go_at_call 153; (with_reducible refine (c2.out _).mono ?_); rintro e w' ⟨rfl, rfl⟩))
      go_ret
      exact ⟨ret_int hE.symm, H0.out⟩
  · have c1 := Lib.hid (fun W => (rwithin_any k.major 0 255 W).mono fun _ _ h => (⟨h.1.trans (ret_bool (by simp; omega)), h.2⟩ : _ = Ending.returned (.bool false) ∧ _))
    rw [if_pos (by omega)] at hE
    clear t1
    go_enter Tryz.func84, Tryz.ntmps84
    go_wp2_with (first | (go_at_call 153; (with_reducible refine (c1.out _).mono ?_); rintro e w' ⟨rfl, rfl⟩))
    go_ret
    exact ⟨ret_int hE.symm, H0.out⟩

set_option maxHeartbeats 2000000 in
set_option maxRecDepth 100000 in
theorem CheckKernel_any (k : Krn) (w : World) (h : k.ok w) :
    Calls Tryz.prog 17 #[k.v] w fun e w' => e = .returned (.int .i64 (krnErr k)) ∧ Below w.heap.size w w' := by
  obtain ⟨⟨hr, hl, hs⟩⟩ := h
  have HR := Lib.hid hr
  have HS := Lib.hid hs
  have HL := Lib.hid hl
  unfold big at hl
  obtain ⟨w0, hw0⟩ : ∃ w0, w0 = w.alloc (.cells #[.int .i64 k.major, .int .i64 k.minor, .slice k.eA k.ex.length k.eC] 24) := ⟨_, rfl⟩
  obtain ⟨g0, g1, g2, hz, hb0⟩ := box3 hw0
  have hz0 : w.heap.size < w0.heap.size := by omega
  have H0 := Lib.hid hb0
  have hw0' := hw0.symm
  clear hw0 hb0 hr hs
  obtain ⟨E, hE⟩ : ∃ E, E = krnErr k := ⟨_, rfl⟩
  rw [← hE]
  have hke : krnErr k = if k.major < 0 ∨ 255 < k.major ∨ k.minor < 0 ∨ 255 < k.minor then 3 else if 8 < k.ex.length then 2 else expErr [] 4096 k.ex := rfl
  rw [hke] at hE
  clear hke
  have c3 := Lib.hid (CheckExports_any k.eA k.eC k.ex 4096 w0 ⟨HR.out.below H0.out, HL.out, HS.out⟩ (by omega) (by unfold big; omega))
  by_cases t1 : 0 ≤ k.major ∧ k.major ≤ 255
  · have c1 := Lib.hid (fun W => between_t k.major 0 255 W t1.1 t1.2)
    by_cases t2 : 0 ≤ k.minor ∧ k.minor ≤ 255
    · have c2 := Lib.hid (fun W => between_t k.minor 0 255 W t2.1 t2.2)
      rw [if_neg (by omega)] at hE
      clear t1 t2
      by_cases t3 : 8 < k.ex.length
      · rw [if_pos t3] at hE
        have t3' : (8 : Int) < k.ex.length := by omega
        clear t3
        go_enter Tryz.func17, Tryz.ntmps17
        go_wp2_with (first | (go_at_call 75; (with_reducible refine (c1.out _).mono ?_); rintro e w' ⟨rfl, rfl⟩) | (go_at_call 75; (with_reducible refine (c2.out _).mono ?_); rintro e w' ⟨rfl, rfl⟩))
        go_ret
        exact ⟨ret_int hE.symm, H0.out⟩
      · rw [if_neg t3] at hE
        have t3' : decide ((8 : Int) < k.ex.length) = false := by simp; omega
        clear t3
        go_enter Tryz.func17, Tryz.ntmps17
        go_wp2_with (first | (go_at_call 75; (with_reducible refine (c1.out _).mono ?_); rintro e w' ⟨rfl, rfl⟩) | (go_at_call 75; (with_reducible refine (c2.out _).mono ?_); rintro e w' ⟨rfl, rfl⟩) | (go_at_call 76; (with_reducible refine (c3.out).mono ?_); rintro e w3 ⟨rfl, hb3⟩))
        go_ret
        exact ⟨ret_int hE.symm, H0.out.trans (hb3.mono (by omega))⟩
    · have c2 := Lib.hid (fun W => between_f k.minor 0 255 W (by omega))
      rw [if_pos (by omega)] at hE
      clear t1 t2
      go_enter Tryz.func17, Tryz.ntmps17
      go_wp2_with (first | (go_at_call 75; (with_reducible refine (c1.out _).mono ?_); rintro e w' ⟨rfl, rfl⟩) | (go_at_call 75; (with_reducible refine (c2.out _).mono ?_); rintro e w' ⟨rfl, rfl⟩))
      go_ret
      exact ⟨ret_int hE.symm, H0.out⟩
  · have c1 := Lib.hid (fun W => between_f k.major 0 255 W (by omega))
    rw [if_pos (by omega)] at hE
    clear t1
    go_enter Tryz.func17, Tryz.ntmps17
    go_wp2_with (first | (go_at_call 75; (with_reducible refine (c1.out _).mono ?_); rintro e w' ⟨rfl, rfl⟩))
    go_ret
    exact ⟨ret_int hE.symm, H0.out⟩

end Go.Proofs.YtjiedaialianmaaGreat
end

section

namespace Go.Proofs.YtjiedaialianmaaGreat
open Go.RowKit

set_option maxHeartbeats 2000000 in
set_option maxRecDepth 100000 in
theorem End_any (x : Plc) (w : World) (h : x.m.text.size ≤ 256) (h0 : 0 ≤ x.first) (h1 : x.first ≤ 16) :
    Calls Tryz.prog 91 #[x.v] w fun e w' => e = .returned (.int .i64 (endOf x)) ∧ Below w.heap.size w w' := by
  obtain ⟨w0, hw0⟩ : ∃ w0, w0 = w.alloc (.cells #[.string x.m.name, .int .i64 x.m.major, .int .i64 x.m.minor, .string x.m.text, .slice x.m.eA x.m.ex.length x.m.eC, .slice x.m.iA x.m.im.length x.m.iC, .slice x.m.pA x.m.pa.length x.m.pC, .int .i64 x.first] 83) := ⟨_, rfl⟩
  obtain ⟨e0, e1, e2, e3, e4, e5, e6, e7, hz, hb⟩ := box8 hw0
  have hw0' := hw0.symm
  have hz0 : w.heap.size < w0.heap.size := by omega
  have H0 := Lib.hid hb
  have hm : 0 ≤ manyOf x.m ∧ manyOf x.m ≤ 4 := by unfold manyOf; omega
  have cM := Lib.hid (fun W => Many_any x.m W (by unfold big; omega))
  obtain ⟨M, hM⟩ : ∃ M, M = manyOf x.m := ⟨_, rfl⟩
  have q0 := Lib.hid (show IntKind.i64.wrap (x.first + M) = x.first + M from IntWalk.i64_in _ (by omega))
  have HE := Lib.hid (show x.first + M = endOf x by unfold endOf; rw [hM])
  rw [← hM] at cM
  clear hw0 hb hM hm h h0 h1
  have HC0 := Lib.hid (show Below w0.heap.size w0 w0 ∧ w0.cell? ⟨w.heap.size, 0, none⟩ = some (.string x.m.name) ∧ w0.cell? ⟨w.heap.size, 1, none⟩ = some (.int .i64 x.m.major) ∧ w0.cell? ⟨w.heap.size, 2, none⟩ = some (.int .i64 x.m.minor) ∧ w0.cell? ⟨w.heap.size, 3, none⟩ = some (.string x.m.text) ∧ w0.cell? ⟨w.heap.size, 4, none⟩ = some (.slice x.m.eA x.m.ex.length x.m.eC) ∧ w0.cell? ⟨w.heap.size, 5, none⟩ = some (.slice x.m.iA x.m.im.length x.m.iC) ∧ w0.cell? ⟨w.heap.size, 6, none⟩ = some (.slice x.m.pA x.m.pa.length x.m.pC) ∧ w0.cell? ⟨w.heap.size, 7, none⟩ = some (.int .i64 x.first) from ⟨Below.refl _ _, by assumption, by assumption, by assumption, by assumption, by assumption, by assumption, by assumption, by assumption⟩)
  have HCD := Lib.hid (show ∀ W' : World, (Below w0.heap.size w0 W' ∧ W'.cell? ⟨w.heap.size, 0, none⟩ = some (.string x.m.name) ∧ W'.cell? ⟨w.heap.size, 1, none⟩ = some (.int .i64 x.m.major) ∧ W'.cell? ⟨w.heap.size, 2, none⟩ = some (.int .i64 x.m.minor) ∧ W'.cell? ⟨w.heap.size, 3, none⟩ = some (.string x.m.text) ∧ W'.cell? ⟨w.heap.size, 4, none⟩ = some (.slice x.m.eA x.m.ex.length x.m.eC) ∧ W'.cell? ⟨w.heap.size, 5, none⟩ = some (.slice x.m.iA x.m.im.length x.m.iC) ∧ W'.cell? ⟨w.heap.size, 6, none⟩ = some (.slice x.m.pA x.m.pa.length x.m.pC) ∧ W'.cell? ⟨w.heap.size, 7, none⟩ = some (.int .i64 x.first)) → (Below w0.heap.size w0 W'.drew ∧ W'.drew.cell? ⟨w.heap.size, 0, none⟩ = some (.string x.m.name) ∧ W'.drew.cell? ⟨w.heap.size, 1, none⟩ = some (.int .i64 x.m.major) ∧ W'.drew.cell? ⟨w.heap.size, 2, none⟩ = some (.int .i64 x.m.minor) ∧ W'.drew.cell? ⟨w.heap.size, 3, none⟩ = some (.string x.m.text) ∧ W'.drew.cell? ⟨w.heap.size, 4, none⟩ = some (.slice x.m.eA x.m.ex.length x.m.eC) ∧ W'.drew.cell? ⟨w.heap.size, 5, none⟩ = some (.slice x.m.iA x.m.im.length x.m.iC) ∧ W'.drew.cell? ⟨w.heap.size, 6, none⟩ = some (.slice x.m.pA x.m.pa.length x.m.pC) ∧ W'.drew.cell? ⟨w.heap.size, 7, none⟩ = some (.int .i64 x.first)) from fun W' ⟨b, a0, a1, a2, a3, a4, a5, a6, a7⟩ => ⟨b.drew, a0, a1, a2, a3, a4, a5, a6, a7⟩)
  have HCS := Lib.hid (show ∀ W' W2 : World, (Below w0.heap.size w0 W' ∧ W'.cell? ⟨w.heap.size, 0, none⟩ = some (.string x.m.name) ∧ W'.cell? ⟨w.heap.size, 1, none⟩ = some (.int .i64 x.m.major) ∧ W'.cell? ⟨w.heap.size, 2, none⟩ = some (.int .i64 x.m.minor) ∧ W'.cell? ⟨w.heap.size, 3, none⟩ = some (.string x.m.text) ∧ W'.cell? ⟨w.heap.size, 4, none⟩ = some (.slice x.m.eA x.m.ex.length x.m.eC) ∧ W'.cell? ⟨w.heap.size, 5, none⟩ = some (.slice x.m.iA x.m.im.length x.m.iC) ∧ W'.cell? ⟨w.heap.size, 6, none⟩ = some (.slice x.m.pA x.m.pa.length x.m.pC) ∧ W'.cell? ⟨w.heap.size, 7, none⟩ = some (.int .i64 x.first)) → Below W'.heap.size W' W2 → (Below w0.heap.size w0 W2 ∧ W2.cell? ⟨w.heap.size, 0, none⟩ = some (.string x.m.name) ∧ W2.cell? ⟨w.heap.size, 1, none⟩ = some (.int .i64 x.m.major) ∧ W2.cell? ⟨w.heap.size, 2, none⟩ = some (.int .i64 x.m.minor) ∧ W2.cell? ⟨w.heap.size, 3, none⟩ = some (.string x.m.text) ∧ W2.cell? ⟨w.heap.size, 4, none⟩ = some (.slice x.m.eA x.m.ex.length x.m.eC) ∧ W2.cell? ⟨w.heap.size, 5, none⟩ = some (.slice x.m.iA x.m.im.length x.m.iC) ∧ W2.cell? ⟨w.heap.size, 6, none⟩ = some (.slice x.m.pA x.m.pa.length x.m.pC) ∧ W2.cell? ⟨w.heap.size, 7, none⟩ = some (.int .i64 x.first)) from fun W' W2 ⟨b, a0, a1, a2, a3, a4, a5, a6, a7⟩ hb => have s := b.size; ⟨b.trans (hb.mono s), (hb.cell (by first | omega | (simp; omega) | (simp only [block_of_add]; omega))).trans a0, (hb.cell (by first | omega | (simp; omega) | (simp only [block_of_add]; omega))).trans a1, (hb.cell (by first | omega | (simp; omega) | (simp only [block_of_add]; omega))).trans a2, (hb.cell (by first | omega | (simp; omega) | (simp only [block_of_add]; omega))).trans a3, (hb.cell (by first | omega | (simp; omega) | (simp only [block_of_add]; omega))).trans a4, (hb.cell (by first | omega | (simp; omega) | (simp only [block_of_add]; omega))).trans a5, (hb.cell (by first | omega | (simp; omega) | (simp only [block_of_add]; omega))).trans a6, (hb.cell (by first | omega | (simp; omega) | (simp only [block_of_add]; omega))).trans a7⟩)
  have HCA := Lib.hid (show ∀ (W' : World) (o : Obj), (Below w0.heap.size w0 W' ∧ W'.cell? ⟨w.heap.size, 0, none⟩ = some (.string x.m.name) ∧ W'.cell? ⟨w.heap.size, 1, none⟩ = some (.int .i64 x.m.major) ∧ W'.cell? ⟨w.heap.size, 2, none⟩ = some (.int .i64 x.m.minor) ∧ W'.cell? ⟨w.heap.size, 3, none⟩ = some (.string x.m.text) ∧ W'.cell? ⟨w.heap.size, 4, none⟩ = some (.slice x.m.eA x.m.ex.length x.m.eC) ∧ W'.cell? ⟨w.heap.size, 5, none⟩ = some (.slice x.m.iA x.m.im.length x.m.iC) ∧ W'.cell? ⟨w.heap.size, 6, none⟩ = some (.slice x.m.pA x.m.pa.length x.m.pC) ∧ W'.cell? ⟨w.heap.size, 7, none⟩ = some (.int .i64 x.first)) → (Below w0.heap.size w0 (W'.alloc o) ∧ (W'.alloc o).cell? ⟨w.heap.size, 0, none⟩ = some (.string x.m.name) ∧ (W'.alloc o).cell? ⟨w.heap.size, 1, none⟩ = some (.int .i64 x.m.major) ∧ (W'.alloc o).cell? ⟨w.heap.size, 2, none⟩ = some (.int .i64 x.m.minor) ∧ (W'.alloc o).cell? ⟨w.heap.size, 3, none⟩ = some (.string x.m.text) ∧ (W'.alloc o).cell? ⟨w.heap.size, 4, none⟩ = some (.slice x.m.eA x.m.ex.length x.m.eC) ∧ (W'.alloc o).cell? ⟨w.heap.size, 5, none⟩ = some (.slice x.m.iA x.m.im.length x.m.iC) ∧ (W'.alloc o).cell? ⟨w.heap.size, 6, none⟩ = some (.slice x.m.pA x.m.pa.length x.m.pC) ∧ (W'.alloc o).cell? ⟨w.heap.size, 7, none⟩ = some (.int .i64 x.first)) from fun W' o hc => HCS.out W' (W'.alloc o) hc ((Below.refl _ _).alloc (Nat.le_refl _) o))
  have HCX := Lib.hid (show ∀ (W' : World) (bX oX : Nat) (vX : Value), w0.heap.size ≤ bX → (Below w0.heap.size w0 W' ∧ W'.cell? ⟨w.heap.size, 0, none⟩ = some (.string x.m.name) ∧ W'.cell? ⟨w.heap.size, 1, none⟩ = some (.int .i64 x.m.major) ∧ W'.cell? ⟨w.heap.size, 2, none⟩ = some (.int .i64 x.m.minor) ∧ W'.cell? ⟨w.heap.size, 3, none⟩ = some (.string x.m.text) ∧ W'.cell? ⟨w.heap.size, 4, none⟩ = some (.slice x.m.eA x.m.ex.length x.m.eC) ∧ W'.cell? ⟨w.heap.size, 5, none⟩ = some (.slice x.m.iA x.m.im.length x.m.iC) ∧ W'.cell? ⟨w.heap.size, 6, none⟩ = some (.slice x.m.pA x.m.pa.length x.m.pC) ∧ W'.cell? ⟨w.heap.size, 7, none⟩ = some (.int .i64 x.first)) → (Below w0.heap.size w0 (W'.setCell ⟨bX, oX, none⟩ vX) ∧ (W'.setCell ⟨bX, oX, none⟩ vX).cell? ⟨w.heap.size, 0, none⟩ = some (.string x.m.name) ∧ (W'.setCell ⟨bX, oX, none⟩ vX).cell? ⟨w.heap.size, 1, none⟩ = some (.int .i64 x.m.major) ∧ (W'.setCell ⟨bX, oX, none⟩ vX).cell? ⟨w.heap.size, 2, none⟩ = some (.int .i64 x.m.minor) ∧ (W'.setCell ⟨bX, oX, none⟩ vX).cell? ⟨w.heap.size, 3, none⟩ = some (.string x.m.text) ∧ (W'.setCell ⟨bX, oX, none⟩ vX).cell? ⟨w.heap.size, 4, none⟩ = some (.slice x.m.eA x.m.ex.length x.m.eC) ∧ (W'.setCell ⟨bX, oX, none⟩ vX).cell? ⟨w.heap.size, 5, none⟩ = some (.slice x.m.iA x.m.im.length x.m.iC) ∧ (W'.setCell ⟨bX, oX, none⟩ vX).cell? ⟨w.heap.size, 6, none⟩ = some (.slice x.m.pA x.m.pa.length x.m.pC) ∧ (W'.setCell ⟨bX, oX, none⟩ vX).cell? ⟨w.heap.size, 7, none⟩ = some (.int .i64 x.first)) from fun W' bX oX vX hbX ⟨b, a0, a1, a2, a3, a4, a5, a6, a7⟩ => ⟨b.setCell (p := ⟨bX, oX, none⟩) hbX vX, (((Below.refl _ _).setCell (p := ⟨bX, oX, none⟩) hbX vX).cell (by first | omega | (simp; omega) | (simp only [block_of_add]; omega))).trans a0, (((Below.refl _ _).setCell (p := ⟨bX, oX, none⟩) hbX vX).cell (by first | omega | (simp; omega) | (simp only [block_of_add]; omega))).trans a1, (((Below.refl _ _).setCell (p := ⟨bX, oX, none⟩) hbX vX).cell (by first | omega | (simp; omega) | (simp only [block_of_add]; omega))).trans a2, (((Below.refl _ _).setCell (p := ⟨bX, oX, none⟩) hbX vX).cell (by first | omega | (simp; omega) | (simp only [block_of_add]; omega))).trans a3, (((Below.refl _ _).setCell (p := ⟨bX, oX, none⟩) hbX vX).cell (by first | omega | (simp; omega) | (simp only [block_of_add]; omega))).trans a4, (((Below.refl _ _).setCell (p := ⟨bX, oX, none⟩) hbX vX).cell (by first | omega | (simp; omega) | (simp only [block_of_add]; omega))).trans a5, (((Below.refl _ _).setCell (p := ⟨bX, oX, none⟩) hbX vX).cell (by first | omega | (simp; omega) | (simp only [block_of_add]; omega))).trans a6, (((Below.refl _ _).setCell (p := ⟨bX, oX, none⟩) hbX vX).cell (by first | omega | (simp; omega) | (simp only [block_of_add]; omega))).trans a7⟩)
  have HCL := Lib.hid (show ∀ W' : World, (Below w0.heap.size w0 W' ∧ W'.cell? ⟨w.heap.size, 0, none⟩ = some (.string x.m.name) ∧ W'.cell? ⟨w.heap.size, 1, none⟩ = some (.int .i64 x.m.major) ∧ W'.cell? ⟨w.heap.size, 2, none⟩ = some (.int .i64 x.m.minor) ∧ W'.cell? ⟨w.heap.size, 3, none⟩ = some (.string x.m.text) ∧ W'.cell? ⟨w.heap.size, 4, none⟩ = some (.slice x.m.eA x.m.ex.length x.m.eC) ∧ W'.cell? ⟨w.heap.size, 5, none⟩ = some (.slice x.m.iA x.m.im.length x.m.iC) ∧ W'.cell? ⟨w.heap.size, 6, none⟩ = some (.slice x.m.pA x.m.pa.length x.m.pC) ∧ W'.cell? ⟨w.heap.size, 7, none⟩ = some (.int .i64 x.first)) → Below w0.heap.size w0 W' from fun W' hc => hc.1)
  clear e0 e1 e2 e3 e4 e5 e6 e7
  go_enter Tryz.func91, Tryz.ntmps91
  go_wp2_with fail
  go_region_held3 (fun W' => Below w0.heap.size w0 W' ∧ W'.cell? ⟨w.heap.size, 0, none⟩ = some (.string x.m.name) ∧ W'.cell? ⟨w.heap.size, 1, none⟩ = some (.int .i64 x.m.major) ∧ W'.cell? ⟨w.heap.size, 2, none⟩ = some (.int .i64 x.m.minor) ∧ W'.cell? ⟨w.heap.size, 3, none⟩ = some (.string x.m.text) ∧ W'.cell? ⟨w.heap.size, 4, none⟩ = some (.slice x.m.eA x.m.ex.length x.m.eC) ∧ W'.cell? ⟨w.heap.size, 5, none⟩ = some (.slice x.m.iA x.m.im.length x.m.iC) ∧ W'.cell? ⟨w.heap.size, 6, none⟩ = some (.slice x.m.pA x.m.pa.length x.m.pC) ∧ W'.cell? ⟨w.heap.size, 7, none⟩ = some (.int .i64 x.first)) (first | exact HC0.out | exact HCD.out _ HC0.out | exact HCS.out _ _ (by assumption) (by assumption) | exact HCS.out _ _ HC0.out (by assumption) | exact HCS.out _ _ (HCD.out _ HC0.out) (by assumption) | exact HCS.out _ _ (HCD.out _ (by assumption)) (by assumption) | exact HCD.out _ (by assumption) | exact HCA.out _ _ (by assumption) | exact HCA.out _ _ HC0.out | exact HCA.out _ _ (HCD.out _ HC0.out) | exact HCD.out _ (HCA.out _ _ (by assumption)) | exact HCA.out _ _ (HCS.out _ _ HC0.out (by assumption)) | exact HCA.out _ _ (HCS.out _ _ (HCD.out _ HC0.out) (by assumption)) | exact HCX.out _ _ _ _ (Nat.le_refl _) (by assumption) | exact HCX.out _ _ _ _ (Nat.le_refl _) (HCS.out _ _ (HCA.out _ _ HC0.out) (by assumption)) | exact HCX.out _ _ _ _ (Nat.le_refl _) (HCS.out _ _ (HCD.out _ (HCA.out _ _ HC0.out)) (by assumption)) | assumption) (first | (go_at_call 164; refine (cM.out _).mono ?_; rintro e w3 ⟨rfl, hb3⟩))
  have hB := HCL.out _ (by assumption)
  clear HC0 HCD HCS HCA
  go_wp2_with fail
  go_ret
  exact ⟨ret_int (by first | exact HE.out | exact q0.out.trans HE.out), H0.out.trans (hB.mono (by omega))⟩


set_option maxHeartbeats 2000000 in
set_option maxRecDepth 100000 in
theorem regQ_any (x : Plc) (w : World) (h : modErr x.m = 0) :
    Calls Tryz.prog 201 #[x.v] w fun e w' => e = .returned (.bool (regQ x)) ∧ Below w.heap.size w w' := by
  obtain ⟨w0, hw0⟩ : ∃ w0, w0 = w.alloc (.cells #[.string x.m.name, .int .i64 x.m.major, .int .i64 x.m.minor, .string x.m.text, .slice x.m.eA x.m.ex.length x.m.eC, .slice x.m.iA x.m.im.length x.m.iC, .slice x.m.pA x.m.pa.length x.m.pC, .int .i64 x.first] 83) := ⟨_, rfl⟩
  obtain ⟨e0, e1, e2, e3, e4, e5, e6, e7, hz, hb⟩ := box8 hw0
  have hw0' := hw0.symm
  have hz0 : w.heap.size < w0.heap.size := by omega
  have H0 := Lib.hid hb
  have hm := many_ok h
  have hx := (modErr_facts h).2.2.1
  have cM := Lib.hid (fun W => Many_any x.m W (by unfold big; omega))
  obtain ⟨M, hM⟩ : ∃ M, M = manyOf x.m := ⟨_, rfl⟩
  rw [← hM] at cM hm
  have q0 : IntKind.i64.wrap (16 - M) = 16 - M := IntWalk.i64_in _ (by omega)
  have hq : regQ x = (decide (0 ≤ x.first) && decide (x.first ≤ 16 - M)) := by unfold regQ; rw [hM]
  clear hw0 hb hM hm h hx
  have HC0 := Lib.hid (show Below w0.heap.size w0 w0 ∧ w0.cell? ⟨w.heap.size, 0, none⟩ = some (.string x.m.name) ∧ w0.cell? ⟨w.heap.size, 1, none⟩ = some (.int .i64 x.m.major) ∧ w0.cell? ⟨w.heap.size, 2, none⟩ = some (.int .i64 x.m.minor) ∧ w0.cell? ⟨w.heap.size, 3, none⟩ = some (.string x.m.text) ∧ w0.cell? ⟨w.heap.size, 4, none⟩ = some (.slice x.m.eA x.m.ex.length x.m.eC) ∧ w0.cell? ⟨w.heap.size, 5, none⟩ = some (.slice x.m.iA x.m.im.length x.m.iC) ∧ w0.cell? ⟨w.heap.size, 6, none⟩ = some (.slice x.m.pA x.m.pa.length x.m.pC) ∧ w0.cell? ⟨w.heap.size, 7, none⟩ = some (.int .i64 x.first) from ⟨Below.refl _ _, by assumption, by assumption, by assumption, by assumption, by assumption, by assumption, by assumption, by assumption⟩)
  have HCD := Lib.hid (show ∀ W' : World, (Below w0.heap.size w0 W' ∧ W'.cell? ⟨w.heap.size, 0, none⟩ = some (.string x.m.name) ∧ W'.cell? ⟨w.heap.size, 1, none⟩ = some (.int .i64 x.m.major) ∧ W'.cell? ⟨w.heap.size, 2, none⟩ = some (.int .i64 x.m.minor) ∧ W'.cell? ⟨w.heap.size, 3, none⟩ = some (.string x.m.text) ∧ W'.cell? ⟨w.heap.size, 4, none⟩ = some (.slice x.m.eA x.m.ex.length x.m.eC) ∧ W'.cell? ⟨w.heap.size, 5, none⟩ = some (.slice x.m.iA x.m.im.length x.m.iC) ∧ W'.cell? ⟨w.heap.size, 6, none⟩ = some (.slice x.m.pA x.m.pa.length x.m.pC) ∧ W'.cell? ⟨w.heap.size, 7, none⟩ = some (.int .i64 x.first)) → (Below w0.heap.size w0 W'.drew ∧ W'.drew.cell? ⟨w.heap.size, 0, none⟩ = some (.string x.m.name) ∧ W'.drew.cell? ⟨w.heap.size, 1, none⟩ = some (.int .i64 x.m.major) ∧ W'.drew.cell? ⟨w.heap.size, 2, none⟩ = some (.int .i64 x.m.minor) ∧ W'.drew.cell? ⟨w.heap.size, 3, none⟩ = some (.string x.m.text) ∧ W'.drew.cell? ⟨w.heap.size, 4, none⟩ = some (.slice x.m.eA x.m.ex.length x.m.eC) ∧ W'.drew.cell? ⟨w.heap.size, 5, none⟩ = some (.slice x.m.iA x.m.im.length x.m.iC) ∧ W'.drew.cell? ⟨w.heap.size, 6, none⟩ = some (.slice x.m.pA x.m.pa.length x.m.pC) ∧ W'.drew.cell? ⟨w.heap.size, 7, none⟩ = some (.int .i64 x.first)) from fun W' ⟨b, a0, a1, a2, a3, a4, a5, a6, a7⟩ => ⟨b.drew, a0, a1, a2, a3, a4, a5, a6, a7⟩)
  have HCS := Lib.hid (show ∀ W' W2 : World, (Below w0.heap.size w0 W' ∧ W'.cell? ⟨w.heap.size, 0, none⟩ = some (.string x.m.name) ∧ W'.cell? ⟨w.heap.size, 1, none⟩ = some (.int .i64 x.m.major) ∧ W'.cell? ⟨w.heap.size, 2, none⟩ = some (.int .i64 x.m.minor) ∧ W'.cell? ⟨w.heap.size, 3, none⟩ = some (.string x.m.text) ∧ W'.cell? ⟨w.heap.size, 4, none⟩ = some (.slice x.m.eA x.m.ex.length x.m.eC) ∧ W'.cell? ⟨w.heap.size, 5, none⟩ = some (.slice x.m.iA x.m.im.length x.m.iC) ∧ W'.cell? ⟨w.heap.size, 6, none⟩ = some (.slice x.m.pA x.m.pa.length x.m.pC) ∧ W'.cell? ⟨w.heap.size, 7, none⟩ = some (.int .i64 x.first)) → Below W'.heap.size W' W2 → (Below w0.heap.size w0 W2 ∧ W2.cell? ⟨w.heap.size, 0, none⟩ = some (.string x.m.name) ∧ W2.cell? ⟨w.heap.size, 1, none⟩ = some (.int .i64 x.m.major) ∧ W2.cell? ⟨w.heap.size, 2, none⟩ = some (.int .i64 x.m.minor) ∧ W2.cell? ⟨w.heap.size, 3, none⟩ = some (.string x.m.text) ∧ W2.cell? ⟨w.heap.size, 4, none⟩ = some (.slice x.m.eA x.m.ex.length x.m.eC) ∧ W2.cell? ⟨w.heap.size, 5, none⟩ = some (.slice x.m.iA x.m.im.length x.m.iC) ∧ W2.cell? ⟨w.heap.size, 6, none⟩ = some (.slice x.m.pA x.m.pa.length x.m.pC) ∧ W2.cell? ⟨w.heap.size, 7, none⟩ = some (.int .i64 x.first)) from fun W' W2 ⟨b, a0, a1, a2, a3, a4, a5, a6, a7⟩ hb => have s := b.size; ⟨b.trans (hb.mono s), (hb.cell (by first | omega | (simp; omega) | (simp only [block_of_add]; omega))).trans a0, (hb.cell (by first | omega | (simp; omega) | (simp only [block_of_add]; omega))).trans a1, (hb.cell (by first | omega | (simp; omega) | (simp only [block_of_add]; omega))).trans a2, (hb.cell (by first | omega | (simp; omega) | (simp only [block_of_add]; omega))).trans a3, (hb.cell (by first | omega | (simp; omega) | (simp only [block_of_add]; omega))).trans a4, (hb.cell (by first | omega | (simp; omega) | (simp only [block_of_add]; omega))).trans a5, (hb.cell (by first | omega | (simp; omega) | (simp only [block_of_add]; omega))).trans a6, (hb.cell (by first | omega | (simp; omega) | (simp only [block_of_add]; omega))).trans a7⟩)
  have HCA := Lib.hid (show ∀ (W' : World) (o : Obj), (Below w0.heap.size w0 W' ∧ W'.cell? ⟨w.heap.size, 0, none⟩ = some (.string x.m.name) ∧ W'.cell? ⟨w.heap.size, 1, none⟩ = some (.int .i64 x.m.major) ∧ W'.cell? ⟨w.heap.size, 2, none⟩ = some (.int .i64 x.m.minor) ∧ W'.cell? ⟨w.heap.size, 3, none⟩ = some (.string x.m.text) ∧ W'.cell? ⟨w.heap.size, 4, none⟩ = some (.slice x.m.eA x.m.ex.length x.m.eC) ∧ W'.cell? ⟨w.heap.size, 5, none⟩ = some (.slice x.m.iA x.m.im.length x.m.iC) ∧ W'.cell? ⟨w.heap.size, 6, none⟩ = some (.slice x.m.pA x.m.pa.length x.m.pC) ∧ W'.cell? ⟨w.heap.size, 7, none⟩ = some (.int .i64 x.first)) → (Below w0.heap.size w0 (W'.alloc o) ∧ (W'.alloc o).cell? ⟨w.heap.size, 0, none⟩ = some (.string x.m.name) ∧ (W'.alloc o).cell? ⟨w.heap.size, 1, none⟩ = some (.int .i64 x.m.major) ∧ (W'.alloc o).cell? ⟨w.heap.size, 2, none⟩ = some (.int .i64 x.m.minor) ∧ (W'.alloc o).cell? ⟨w.heap.size, 3, none⟩ = some (.string x.m.text) ∧ (W'.alloc o).cell? ⟨w.heap.size, 4, none⟩ = some (.slice x.m.eA x.m.ex.length x.m.eC) ∧ (W'.alloc o).cell? ⟨w.heap.size, 5, none⟩ = some (.slice x.m.iA x.m.im.length x.m.iC) ∧ (W'.alloc o).cell? ⟨w.heap.size, 6, none⟩ = some (.slice x.m.pA x.m.pa.length x.m.pC) ∧ (W'.alloc o).cell? ⟨w.heap.size, 7, none⟩ = some (.int .i64 x.first)) from fun W' o hc => HCS.out W' (W'.alloc o) hc ((Below.refl _ _).alloc (Nat.le_refl _) o))
  have HCX := Lib.hid (show ∀ (W' : World) (bX oX : Nat) (vX : Value), w0.heap.size ≤ bX → (Below w0.heap.size w0 W' ∧ W'.cell? ⟨w.heap.size, 0, none⟩ = some (.string x.m.name) ∧ W'.cell? ⟨w.heap.size, 1, none⟩ = some (.int .i64 x.m.major) ∧ W'.cell? ⟨w.heap.size, 2, none⟩ = some (.int .i64 x.m.minor) ∧ W'.cell? ⟨w.heap.size, 3, none⟩ = some (.string x.m.text) ∧ W'.cell? ⟨w.heap.size, 4, none⟩ = some (.slice x.m.eA x.m.ex.length x.m.eC) ∧ W'.cell? ⟨w.heap.size, 5, none⟩ = some (.slice x.m.iA x.m.im.length x.m.iC) ∧ W'.cell? ⟨w.heap.size, 6, none⟩ = some (.slice x.m.pA x.m.pa.length x.m.pC) ∧ W'.cell? ⟨w.heap.size, 7, none⟩ = some (.int .i64 x.first)) → (Below w0.heap.size w0 (W'.setCell ⟨bX, oX, none⟩ vX) ∧ (W'.setCell ⟨bX, oX, none⟩ vX).cell? ⟨w.heap.size, 0, none⟩ = some (.string x.m.name) ∧ (W'.setCell ⟨bX, oX, none⟩ vX).cell? ⟨w.heap.size, 1, none⟩ = some (.int .i64 x.m.major) ∧ (W'.setCell ⟨bX, oX, none⟩ vX).cell? ⟨w.heap.size, 2, none⟩ = some (.int .i64 x.m.minor) ∧ (W'.setCell ⟨bX, oX, none⟩ vX).cell? ⟨w.heap.size, 3, none⟩ = some (.string x.m.text) ∧ (W'.setCell ⟨bX, oX, none⟩ vX).cell? ⟨w.heap.size, 4, none⟩ = some (.slice x.m.eA x.m.ex.length x.m.eC) ∧ (W'.setCell ⟨bX, oX, none⟩ vX).cell? ⟨w.heap.size, 5, none⟩ = some (.slice x.m.iA x.m.im.length x.m.iC) ∧ (W'.setCell ⟨bX, oX, none⟩ vX).cell? ⟨w.heap.size, 6, none⟩ = some (.slice x.m.pA x.m.pa.length x.m.pC) ∧ (W'.setCell ⟨bX, oX, none⟩ vX).cell? ⟨w.heap.size, 7, none⟩ = some (.int .i64 x.first)) from fun W' bX oX vX hbX ⟨b, a0, a1, a2, a3, a4, a5, a6, a7⟩ => ⟨b.setCell (p := ⟨bX, oX, none⟩) hbX vX, (((Below.refl _ _).setCell (p := ⟨bX, oX, none⟩) hbX vX).cell (by first | omega | (simp; omega) | (simp only [block_of_add]; omega))).trans a0, (((Below.refl _ _).setCell (p := ⟨bX, oX, none⟩) hbX vX).cell (by first | omega | (simp; omega) | (simp only [block_of_add]; omega))).trans a1, (((Below.refl _ _).setCell (p := ⟨bX, oX, none⟩) hbX vX).cell (by first | omega | (simp; omega) | (simp only [block_of_add]; omega))).trans a2, (((Below.refl _ _).setCell (p := ⟨bX, oX, none⟩) hbX vX).cell (by first | omega | (simp; omega) | (simp only [block_of_add]; omega))).trans a3, (((Below.refl _ _).setCell (p := ⟨bX, oX, none⟩) hbX vX).cell (by first | omega | (simp; omega) | (simp only [block_of_add]; omega))).trans a4, (((Below.refl _ _).setCell (p := ⟨bX, oX, none⟩) hbX vX).cell (by first | omega | (simp; omega) | (simp only [block_of_add]; omega))).trans a5, (((Below.refl _ _).setCell (p := ⟨bX, oX, none⟩) hbX vX).cell (by first | omega | (simp; omega) | (simp only [block_of_add]; omega))).trans a6, (((Below.refl _ _).setCell (p := ⟨bX, oX, none⟩) hbX vX).cell (by first | omega | (simp; omega) | (simp only [block_of_add]; omega))).trans a7⟩)
  have HCL := Lib.hid (show ∀ W' : World, (Below w0.heap.size w0 W' ∧ W'.cell? ⟨w.heap.size, 0, none⟩ = some (.string x.m.name) ∧ W'.cell? ⟨w.heap.size, 1, none⟩ = some (.int .i64 x.m.major) ∧ W'.cell? ⟨w.heap.size, 2, none⟩ = some (.int .i64 x.m.minor) ∧ W'.cell? ⟨w.heap.size, 3, none⟩ = some (.string x.m.text) ∧ W'.cell? ⟨w.heap.size, 4, none⟩ = some (.slice x.m.eA x.m.ex.length x.m.eC) ∧ W'.cell? ⟨w.heap.size, 5, none⟩ = some (.slice x.m.iA x.m.im.length x.m.iC) ∧ W'.cell? ⟨w.heap.size, 6, none⟩ = some (.slice x.m.pA x.m.pa.length x.m.pC) ∧ W'.cell? ⟨w.heap.size, 7, none⟩ = some (.int .i64 x.first)) → Below w0.heap.size w0 W' from fun W' hc => hc.1)
  clear e0 e1 e2 e3 e4 e5 e6 e7
  by_cases t0 : 0 ≤ x.first
  · by_cases t1 : x.first ≤ 16 - M
    · have HE := Lib.hid (show true = regQ x by rw [hq]; simp [t0, t1])
      clear hq
      go_enter Tryz.func201, Tryz.ntmps201
      go_wp2_with fail
      go_region_held3 (fun W' => Below w0.heap.size w0 W' ∧ W'.cell? ⟨w.heap.size, 0, none⟩ = some (.string x.m.name) ∧ W'.cell? ⟨w.heap.size, 1, none⟩ = some (.int .i64 x.m.major) ∧ W'.cell? ⟨w.heap.size, 2, none⟩ = some (.int .i64 x.m.minor) ∧ W'.cell? ⟨w.heap.size, 3, none⟩ = some (.string x.m.text) ∧ W'.cell? ⟨w.heap.size, 4, none⟩ = some (.slice x.m.eA x.m.ex.length x.m.eC) ∧ W'.cell? ⟨w.heap.size, 5, none⟩ = some (.slice x.m.iA x.m.im.length x.m.iC) ∧ W'.cell? ⟨w.heap.size, 6, none⟩ = some (.slice x.m.pA x.m.pa.length x.m.pC) ∧ W'.cell? ⟨w.heap.size, 7, none⟩ = some (.int .i64 x.first)) (first | exact HC0.out | exact HCD.out _ HC0.out | exact HCS.out _ _ (by assumption) (by assumption) | exact HCS.out _ _ HC0.out (by assumption) | exact HCS.out _ _ (HCD.out _ HC0.out) (by assumption) | exact HCS.out _ _ (HCD.out _ (by assumption)) (by assumption) | exact HCD.out _ (by assumption) | exact HCA.out _ _ (by assumption) | exact HCA.out _ _ HC0.out | exact HCA.out _ _ (HCD.out _ HC0.out) | exact HCD.out _ (HCA.out _ _ (by assumption)) | exact HCA.out _ _ (HCS.out _ _ HC0.out (by assumption)) | exact HCA.out _ _ (HCS.out _ _ (HCD.out _ HC0.out) (by assumption)) | exact HCX.out _ _ _ _ (Nat.le_refl _) (by assumption) | exact HCX.out _ _ _ _ (Nat.le_refl _) (HCS.out _ _ (HCA.out _ _ HC0.out) (by assumption)) | exact HCX.out _ _ _ _ (Nat.le_refl _) (HCS.out _ _ (HCD.out _ (HCA.out _ _ HC0.out)) (by assumption)) | assumption) (first | (go_at_call 164; refine (cM.out _).mono ?_; rintro e w3 ⟨rfl, hb3⟩))
      have hB := HCL.out _ (by assumption)
      clear HC0 HCD HCS HCA
      go_wp2_with fail
      go_ret
      exact ⟨ret_bool HE.out, H0.out.trans (hB.mono (by omega))⟩
    · have HE := Lib.hid (show false = regQ x by rw [hq]; simp [t0, t1])
      have t1' : decide (x.first ≤ 16 - M) = false := by simp; omega
      clear hq t1
      go_enter Tryz.func201, Tryz.ntmps201
      go_wp2_with fail
      go_region_held3 (fun W' => Below w0.heap.size w0 W' ∧ W'.cell? ⟨w.heap.size, 0, none⟩ = some (.string x.m.name) ∧ W'.cell? ⟨w.heap.size, 1, none⟩ = some (.int .i64 x.m.major) ∧ W'.cell? ⟨w.heap.size, 2, none⟩ = some (.int .i64 x.m.minor) ∧ W'.cell? ⟨w.heap.size, 3, none⟩ = some (.string x.m.text) ∧ W'.cell? ⟨w.heap.size, 4, none⟩ = some (.slice x.m.eA x.m.ex.length x.m.eC) ∧ W'.cell? ⟨w.heap.size, 5, none⟩ = some (.slice x.m.iA x.m.im.length x.m.iC) ∧ W'.cell? ⟨w.heap.size, 6, none⟩ = some (.slice x.m.pA x.m.pa.length x.m.pC) ∧ W'.cell? ⟨w.heap.size, 7, none⟩ = some (.int .i64 x.first)) (first | exact HC0.out | exact HCD.out _ HC0.out | exact HCS.out _ _ (by assumption) (by assumption) | exact HCS.out _ _ HC0.out (by assumption) | exact HCS.out _ _ (HCD.out _ HC0.out) (by assumption) | exact HCS.out _ _ (HCD.out _ (by assumption)) (by assumption) | exact HCD.out _ (by assumption) | exact HCA.out _ _ (by assumption) | exact HCA.out _ _ HC0.out | exact HCA.out _ _ (HCD.out _ HC0.out) | exact HCD.out _ (HCA.out _ _ (by assumption)) | exact HCA.out _ _ (HCS.out _ _ HC0.out (by assumption)) | exact HCA.out _ _ (HCS.out _ _ (HCD.out _ HC0.out) (by assumption)) | exact HCX.out _ _ _ _ (Nat.le_refl _) (by assumption) | exact HCX.out _ _ _ _ (Nat.le_refl _) (HCS.out _ _ (HCA.out _ _ HC0.out) (by assumption)) | exact HCX.out _ _ _ _ (Nat.le_refl _) (HCS.out _ _ (HCD.out _ (HCA.out _ _ HC0.out)) (by assumption)) | assumption) (first | (go_at_call 164; refine (cM.out _).mono ?_; rintro e w3 ⟨rfl, hb3⟩))
      have hB := HCL.out _ (by assumption)
      clear HC0 HCD HCS HCA
      go_wp2_with fail
      go_ret
      exact ⟨ret_bool HE.out, H0.out.trans (hB.mono (by omega))⟩
  · have HE := Lib.hid (show false = regQ x by rw [hq]; simp [t0])
    have t0' : decide (0 ≤ x.first) = false := by simp; omega
    clear hq t0
    go_enter Tryz.func201, Tryz.ntmps201
    go_wp2_with fail
    have f0 := HC0.out.2.1
    have f7 := HC0.out.2.2.2.2.2.2.2.2
    clear HC0 HCD HCS HCA HCL cM
    go_quiet (fail)
    go_wp2_with fail
    go_ret
    exact ⟨ret_bool HE.out, below_drewN H0.out _⟩

set_option maxHeartbeats 2000000 in
set_option maxRecDepth 100000 in
theorem RCheck_any (A : Option Addr) (c : Nat) (l : List Plc) (w : World) (h : PlsOk w A l) :
    Calls Tryz.prog 137 #[.slice A l.length c] w fun e w' => e = .returned (.int .i64 (regErr l)) ∧ Below w.heap.size w w' := by
  have hl := h.len
  unfold big at hl
  have HP := Lib.hid h
  have c1 := Lib.hid (Modules_any A c l 201 regQ w (enters_of Tryz.func201 (by kernel_rfl) rfl) h (fun x _ hx W => regQ_any x W hx))
  obtain ⟨E, hE⟩ : ∃ E, E = modsAll regQ l := ⟨_, rfl⟩
  rw [← hE] at c1
  have hR : regErr l = if E ≠ 0 then E else adjErr l := by unfold regErr; rw [hE]
  clear h
  by_cases t0 : E = 0
  · obtain rfl := t0
    rw [if_neg (by omega)] at hR
    obtain ⟨h8, hall⟩ := modsAll_ok hE.symm
    have HALL := Lib.hid (show ∀ x ∈ l, x.m.text.size ≤ 256 ∧ 0 ≤ x.first ∧ x.first ≤ 16 ∧ 0 ≤ manyOf x.m ∧ manyOf x.m ≤ 4 from fun x hx => by
      obtain ⟨h1, h2⟩ := hall x hx
      have h3 := many_ok h1
      simp only [regQ, Bool.and_eq_true, decide_eq_true_eq] at h2
      exact ⟨(modErr_facts h1).2.2.1, by omega⟩)
    have HR := Lib.hid hR
    clear hE hR h8 hall
    go_enter Tryz.func137, Tryz.ntmps137
    go_wp2_with (first | (go_at_call 198; refine (c1.out).mono ?_; rintro e w2 ⟨rfl, hb2⟩))
    clear c1
    go_loopw [4] (fun i wr => ∃ j : Nat, 1 ≤ j ∧ (j ≤ l.length ∨ j = 1) ∧ i = .int .i64 j ∧ adjFrom l j = adjErr l ∧ Below w.heap.size w wr) (fun i _ => l.length - (intOf i).toNat)
    case atStart => exact ⟨1, by omega, by omega, rfl, adjFrom_one, hb2⟩
    case round =>
      obtain ⟨j, hj1, hj, rfl, hE, hb⟩ := hrel
      have HE := Lib.hid hE
      have HB := Lib.hid hb
      clear hE
      by_cases hlt : j < l.length
      · have hlt' : (j : Int) < l.length := by omega
        obtain ⟨ad, rfl, hab, h0, h1, h2, h3, h4, h5, h6, h7⟩ := plc_at HP.out.row hb j hlt
        obtain ⟨k, hk⟩ : ∃ k, j = k + 1 := ⟨j - 1, by omega⟩
        have hkl : k < l.length := by omega
        obtain ⟨ad', e', hab', g0, g1, g2, g3, g4, g5, g6, g7⟩ := plc_at HP.out.row hb k hkl
        obtain rfl := Option.some.inj e'
        have hwz := hb.size
        have q1 : IntKind.i64.wrap ((j : Int) - 1) = k := by rw [IntWalk.i64_in _ (by omega)]; omega
        have HK := Lib.hid (show ∀ (h : j < l.length), l[j - 1]'(Nat.lt_of_le_of_lt (Nat.sub_le _ _) h) = l[k]'hkl from fun h => by simp only [show j - 1 = k by omega])
        have q2 : (k : Int) < l.length := by omega
        have q3 : (0 : Int) ≤ k := by omega
        obtain ⟨f1, f2, f3, f4, f5⟩ := HALL.out (l[k]'hkl) (List.getElem_mem _)
        obtain ⟨y, hy⟩ : ∃ y, y = l[k]'hkl := ⟨_, rfl⟩
        rw [← hy] at f1 f2 f3 f4 f5 g0 g1 g2 g3 g4 g5 g6 g7
        have HY := Lib.hid hy
        obtain ⟨z, hz⟩ : ∃ z, z = l[j].first := ⟨_, rfl⟩
        rw [← hz] at h7
        have HZ := Lib.hid hz
        clear hy hz
        have cE := Lib.hid (fun W => End_any y W f1 f2 f3)
        obtain ⟨N, hN⟩ : ∃ N, N = endOf y := ⟨_, rfl⟩
        rw [← hN] at cE
        have HN := Lib.hid hN
        clear f1 f2 f3 f4 f5 hN e'
        have hbm : (ad.add (j * 8)).block < wr.heap.size := by rw [block_of_add]; omega
        have hbn : (ad.add (k * 8)).block < wr.heap.size := by rw [block_of_add]; omega
        have HC0 := Lib.hid (show Below wr.heap.size wr wr ∧ wr.cell? (ad.add (k * 8)) = some (.string y.m.name) ∧ wr.cell? ⟨(ad.add (k * 8)).block, (ad.add (k * 8)).off + 1, none⟩ = some (.int .i64 y.m.major) ∧ wr.cell? ⟨(ad.add (k * 8)).block, (ad.add (k * 8)).off + 2, none⟩ = some (.int .i64 y.m.minor) ∧ wr.cell? ⟨(ad.add (k * 8)).block, (ad.add (k * 8)).off + 3, none⟩ = some (.string y.m.text) ∧ wr.cell? ⟨(ad.add (k * 8)).block, (ad.add (k * 8)).off + 4, none⟩ = some (.slice y.m.eA y.m.ex.length y.m.eC) ∧ wr.cell? ⟨(ad.add (k * 8)).block, (ad.add (k * 8)).off + 5, none⟩ = some (.slice y.m.iA y.m.im.length y.m.iC) ∧ wr.cell? ⟨(ad.add (k * 8)).block, (ad.add (k * 8)).off + 6, none⟩ = some (.slice y.m.pA y.m.pa.length y.m.pC) ∧ wr.cell? ⟨(ad.add (k * 8)).block, (ad.add (k * 8)).off + 7, none⟩ = some (.int .i64 y.first) ∧ wr.cell? ⟨(ad.add (j * 8)).block, (ad.add (j * 8)).off + 7, none⟩ = some (.int .i64 z) from ⟨Below.refl _ _, by assumption, by assumption, by assumption, by assumption, by assumption, by assumption, by assumption, by assumption, by assumption⟩)
        have HCD := Lib.hid (show ∀ W' : World, (Below wr.heap.size wr W' ∧ W'.cell? (ad.add (k * 8)) = some (.string y.m.name) ∧ W'.cell? ⟨(ad.add (k * 8)).block, (ad.add (k * 8)).off + 1, none⟩ = some (.int .i64 y.m.major) ∧ W'.cell? ⟨(ad.add (k * 8)).block, (ad.add (k * 8)).off + 2, none⟩ = some (.int .i64 y.m.minor) ∧ W'.cell? ⟨(ad.add (k * 8)).block, (ad.add (k * 8)).off + 3, none⟩ = some (.string y.m.text) ∧ W'.cell? ⟨(ad.add (k * 8)).block, (ad.add (k * 8)).off + 4, none⟩ = some (.slice y.m.eA y.m.ex.length y.m.eC) ∧ W'.cell? ⟨(ad.add (k * 8)).block, (ad.add (k * 8)).off + 5, none⟩ = some (.slice y.m.iA y.m.im.length y.m.iC) ∧ W'.cell? ⟨(ad.add (k * 8)).block, (ad.add (k * 8)).off + 6, none⟩ = some (.slice y.m.pA y.m.pa.length y.m.pC) ∧ W'.cell? ⟨(ad.add (k * 8)).block, (ad.add (k * 8)).off + 7, none⟩ = some (.int .i64 y.first) ∧ W'.cell? ⟨(ad.add (j * 8)).block, (ad.add (j * 8)).off + 7, none⟩ = some (.int .i64 z)) → (Below wr.heap.size wr W'.drew ∧ W'.drew.cell? (ad.add (k * 8)) = some (.string y.m.name) ∧ W'.drew.cell? ⟨(ad.add (k * 8)).block, (ad.add (k * 8)).off + 1, none⟩ = some (.int .i64 y.m.major) ∧ W'.drew.cell? ⟨(ad.add (k * 8)).block, (ad.add (k * 8)).off + 2, none⟩ = some (.int .i64 y.m.minor) ∧ W'.drew.cell? ⟨(ad.add (k * 8)).block, (ad.add (k * 8)).off + 3, none⟩ = some (.string y.m.text) ∧ W'.drew.cell? ⟨(ad.add (k * 8)).block, (ad.add (k * 8)).off + 4, none⟩ = some (.slice y.m.eA y.m.ex.length y.m.eC) ∧ W'.drew.cell? ⟨(ad.add (k * 8)).block, (ad.add (k * 8)).off + 5, none⟩ = some (.slice y.m.iA y.m.im.length y.m.iC) ∧ W'.drew.cell? ⟨(ad.add (k * 8)).block, (ad.add (k * 8)).off + 6, none⟩ = some (.slice y.m.pA y.m.pa.length y.m.pC) ∧ W'.drew.cell? ⟨(ad.add (k * 8)).block, (ad.add (k * 8)).off + 7, none⟩ = some (.int .i64 y.first) ∧ W'.drew.cell? ⟨(ad.add (j * 8)).block, (ad.add (j * 8)).off + 7, none⟩ = some (.int .i64 z)) from fun W' ⟨b, a0, a1, a2, a3, a4, a5, a6, a7, a8⟩ => ⟨b.drew, a0, a1, a2, a3, a4, a5, a6, a7, a8⟩)
        have HCS := Lib.hid (show ∀ W' W2 : World, (Below wr.heap.size wr W' ∧ W'.cell? (ad.add (k * 8)) = some (.string y.m.name) ∧ W'.cell? ⟨(ad.add (k * 8)).block, (ad.add (k * 8)).off + 1, none⟩ = some (.int .i64 y.m.major) ∧ W'.cell? ⟨(ad.add (k * 8)).block, (ad.add (k * 8)).off + 2, none⟩ = some (.int .i64 y.m.minor) ∧ W'.cell? ⟨(ad.add (k * 8)).block, (ad.add (k * 8)).off + 3, none⟩ = some (.string y.m.text) ∧ W'.cell? ⟨(ad.add (k * 8)).block, (ad.add (k * 8)).off + 4, none⟩ = some (.slice y.m.eA y.m.ex.length y.m.eC) ∧ W'.cell? ⟨(ad.add (k * 8)).block, (ad.add (k * 8)).off + 5, none⟩ = some (.slice y.m.iA y.m.im.length y.m.iC) ∧ W'.cell? ⟨(ad.add (k * 8)).block, (ad.add (k * 8)).off + 6, none⟩ = some (.slice y.m.pA y.m.pa.length y.m.pC) ∧ W'.cell? ⟨(ad.add (k * 8)).block, (ad.add (k * 8)).off + 7, none⟩ = some (.int .i64 y.first) ∧ W'.cell? ⟨(ad.add (j * 8)).block, (ad.add (j * 8)).off + 7, none⟩ = some (.int .i64 z)) → Below W'.heap.size W' W2 → (Below wr.heap.size wr W2 ∧ W2.cell? (ad.add (k * 8)) = some (.string y.m.name) ∧ W2.cell? ⟨(ad.add (k * 8)).block, (ad.add (k * 8)).off + 1, none⟩ = some (.int .i64 y.m.major) ∧ W2.cell? ⟨(ad.add (k * 8)).block, (ad.add (k * 8)).off + 2, none⟩ = some (.int .i64 y.m.minor) ∧ W2.cell? ⟨(ad.add (k * 8)).block, (ad.add (k * 8)).off + 3, none⟩ = some (.string y.m.text) ∧ W2.cell? ⟨(ad.add (k * 8)).block, (ad.add (k * 8)).off + 4, none⟩ = some (.slice y.m.eA y.m.ex.length y.m.eC) ∧ W2.cell? ⟨(ad.add (k * 8)).block, (ad.add (k * 8)).off + 5, none⟩ = some (.slice y.m.iA y.m.im.length y.m.iC) ∧ W2.cell? ⟨(ad.add (k * 8)).block, (ad.add (k * 8)).off + 6, none⟩ = some (.slice y.m.pA y.m.pa.length y.m.pC) ∧ W2.cell? ⟨(ad.add (k * 8)).block, (ad.add (k * 8)).off + 7, none⟩ = some (.int .i64 y.first) ∧ W2.cell? ⟨(ad.add (j * 8)).block, (ad.add (j * 8)).off + 7, none⟩ = some (.int .i64 z)) from fun W' W2 ⟨b, a0, a1, a2, a3, a4, a5, a6, a7, a8⟩ hb => have s := b.size; ⟨b.trans (hb.mono s), (hb.cell (by first | omega | (simp; omega) | (simp only [block_of_add]; omega))).trans a0, (hb.cell (by first | omega | (simp; omega) | (simp only [block_of_add]; omega))).trans a1, (hb.cell (by first | omega | (simp; omega) | (simp only [block_of_add]; omega))).trans a2, (hb.cell (by first | omega | (simp; omega) | (simp only [block_of_add]; omega))).trans a3, (hb.cell (by first | omega | (simp; omega) | (simp only [block_of_add]; omega))).trans a4, (hb.cell (by first | omega | (simp; omega) | (simp only [block_of_add]; omega))).trans a5, (hb.cell (by first | omega | (simp; omega) | (simp only [block_of_add]; omega))).trans a6, (hb.cell (by first | omega | (simp; omega) | (simp only [block_of_add]; omega))).trans a7, (hb.cell (by first | omega | (simp; omega) | (simp only [block_of_add]; omega))).trans a8⟩)
        have HCA := Lib.hid (show ∀ (W' : World) (o : Obj), (Below wr.heap.size wr W' ∧ W'.cell? (ad.add (k * 8)) = some (.string y.m.name) ∧ W'.cell? ⟨(ad.add (k * 8)).block, (ad.add (k * 8)).off + 1, none⟩ = some (.int .i64 y.m.major) ∧ W'.cell? ⟨(ad.add (k * 8)).block, (ad.add (k * 8)).off + 2, none⟩ = some (.int .i64 y.m.minor) ∧ W'.cell? ⟨(ad.add (k * 8)).block, (ad.add (k * 8)).off + 3, none⟩ = some (.string y.m.text) ∧ W'.cell? ⟨(ad.add (k * 8)).block, (ad.add (k * 8)).off + 4, none⟩ = some (.slice y.m.eA y.m.ex.length y.m.eC) ∧ W'.cell? ⟨(ad.add (k * 8)).block, (ad.add (k * 8)).off + 5, none⟩ = some (.slice y.m.iA y.m.im.length y.m.iC) ∧ W'.cell? ⟨(ad.add (k * 8)).block, (ad.add (k * 8)).off + 6, none⟩ = some (.slice y.m.pA y.m.pa.length y.m.pC) ∧ W'.cell? ⟨(ad.add (k * 8)).block, (ad.add (k * 8)).off + 7, none⟩ = some (.int .i64 y.first) ∧ W'.cell? ⟨(ad.add (j * 8)).block, (ad.add (j * 8)).off + 7, none⟩ = some (.int .i64 z)) → (Below wr.heap.size wr (W'.alloc o) ∧ (W'.alloc o).cell? (ad.add (k * 8)) = some (.string y.m.name) ∧ (W'.alloc o).cell? ⟨(ad.add (k * 8)).block, (ad.add (k * 8)).off + 1, none⟩ = some (.int .i64 y.m.major) ∧ (W'.alloc o).cell? ⟨(ad.add (k * 8)).block, (ad.add (k * 8)).off + 2, none⟩ = some (.int .i64 y.m.minor) ∧ (W'.alloc o).cell? ⟨(ad.add (k * 8)).block, (ad.add (k * 8)).off + 3, none⟩ = some (.string y.m.text) ∧ (W'.alloc o).cell? ⟨(ad.add (k * 8)).block, (ad.add (k * 8)).off + 4, none⟩ = some (.slice y.m.eA y.m.ex.length y.m.eC) ∧ (W'.alloc o).cell? ⟨(ad.add (k * 8)).block, (ad.add (k * 8)).off + 5, none⟩ = some (.slice y.m.iA y.m.im.length y.m.iC) ∧ (W'.alloc o).cell? ⟨(ad.add (k * 8)).block, (ad.add (k * 8)).off + 6, none⟩ = some (.slice y.m.pA y.m.pa.length y.m.pC) ∧ (W'.alloc o).cell? ⟨(ad.add (k * 8)).block, (ad.add (k * 8)).off + 7, none⟩ = some (.int .i64 y.first) ∧ (W'.alloc o).cell? ⟨(ad.add (j * 8)).block, (ad.add (j * 8)).off + 7, none⟩ = some (.int .i64 z)) from fun W' o hc => HCS.out W' (W'.alloc o) hc ((Below.refl _ _).alloc (Nat.le_refl _) o))
        have HCX := Lib.hid (show ∀ (W' : World) (bX oX : Nat) (vX : Value), wr.heap.size ≤ bX → (Below wr.heap.size wr W' ∧ W'.cell? (ad.add (k * 8)) = some (.string y.m.name) ∧ W'.cell? ⟨(ad.add (k * 8)).block, (ad.add (k * 8)).off + 1, none⟩ = some (.int .i64 y.m.major) ∧ W'.cell? ⟨(ad.add (k * 8)).block, (ad.add (k * 8)).off + 2, none⟩ = some (.int .i64 y.m.minor) ∧ W'.cell? ⟨(ad.add (k * 8)).block, (ad.add (k * 8)).off + 3, none⟩ = some (.string y.m.text) ∧ W'.cell? ⟨(ad.add (k * 8)).block, (ad.add (k * 8)).off + 4, none⟩ = some (.slice y.m.eA y.m.ex.length y.m.eC) ∧ W'.cell? ⟨(ad.add (k * 8)).block, (ad.add (k * 8)).off + 5, none⟩ = some (.slice y.m.iA y.m.im.length y.m.iC) ∧ W'.cell? ⟨(ad.add (k * 8)).block, (ad.add (k * 8)).off + 6, none⟩ = some (.slice y.m.pA y.m.pa.length y.m.pC) ∧ W'.cell? ⟨(ad.add (k * 8)).block, (ad.add (k * 8)).off + 7, none⟩ = some (.int .i64 y.first) ∧ W'.cell? ⟨(ad.add (j * 8)).block, (ad.add (j * 8)).off + 7, none⟩ = some (.int .i64 z)) → (Below wr.heap.size wr (W'.setCell ⟨bX, oX, none⟩ vX) ∧ (W'.setCell ⟨bX, oX, none⟩ vX).cell? (ad.add (k * 8)) = some (.string y.m.name) ∧ (W'.setCell ⟨bX, oX, none⟩ vX).cell? ⟨(ad.add (k * 8)).block, (ad.add (k * 8)).off + 1, none⟩ = some (.int .i64 y.m.major) ∧ (W'.setCell ⟨bX, oX, none⟩ vX).cell? ⟨(ad.add (k * 8)).block, (ad.add (k * 8)).off + 2, none⟩ = some (.int .i64 y.m.minor) ∧ (W'.setCell ⟨bX, oX, none⟩ vX).cell? ⟨(ad.add (k * 8)).block, (ad.add (k * 8)).off + 3, none⟩ = some (.string y.m.text) ∧ (W'.setCell ⟨bX, oX, none⟩ vX).cell? ⟨(ad.add (k * 8)).block, (ad.add (k * 8)).off + 4, none⟩ = some (.slice y.m.eA y.m.ex.length y.m.eC) ∧ (W'.setCell ⟨bX, oX, none⟩ vX).cell? ⟨(ad.add (k * 8)).block, (ad.add (k * 8)).off + 5, none⟩ = some (.slice y.m.iA y.m.im.length y.m.iC) ∧ (W'.setCell ⟨bX, oX, none⟩ vX).cell? ⟨(ad.add (k * 8)).block, (ad.add (k * 8)).off + 6, none⟩ = some (.slice y.m.pA y.m.pa.length y.m.pC) ∧ (W'.setCell ⟨bX, oX, none⟩ vX).cell? ⟨(ad.add (k * 8)).block, (ad.add (k * 8)).off + 7, none⟩ = some (.int .i64 y.first) ∧ (W'.setCell ⟨bX, oX, none⟩ vX).cell? ⟨(ad.add (j * 8)).block, (ad.add (j * 8)).off + 7, none⟩ = some (.int .i64 z)) from fun W' bX oX vX hbX ⟨b, a0, a1, a2, a3, a4, a5, a6, a7, a8⟩ => ⟨b.setCell (p := ⟨bX, oX, none⟩) hbX vX, (((Below.refl _ _).setCell (p := ⟨bX, oX, none⟩) hbX vX).cell (by first | omega | (simp; omega) | (simp only [block_of_add]; omega))).trans a0, (((Below.refl _ _).setCell (p := ⟨bX, oX, none⟩) hbX vX).cell (by first | omega | (simp; omega) | (simp only [block_of_add]; omega))).trans a1, (((Below.refl _ _).setCell (p := ⟨bX, oX, none⟩) hbX vX).cell (by first | omega | (simp; omega) | (simp only [block_of_add]; omega))).trans a2, (((Below.refl _ _).setCell (p := ⟨bX, oX, none⟩) hbX vX).cell (by first | omega | (simp; omega) | (simp only [block_of_add]; omega))).trans a3, (((Below.refl _ _).setCell (p := ⟨bX, oX, none⟩) hbX vX).cell (by first | omega | (simp; omega) | (simp only [block_of_add]; omega))).trans a4, (((Below.refl _ _).setCell (p := ⟨bX, oX, none⟩) hbX vX).cell (by first | omega | (simp; omega) | (simp only [block_of_add]; omega))).trans a5, (((Below.refl _ _).setCell (p := ⟨bX, oX, none⟩) hbX vX).cell (by first | omega | (simp; omega) | (simp only [block_of_add]; omega))).trans a6, (((Below.refl _ _).setCell (p := ⟨bX, oX, none⟩) hbX vX).cell (by first | omega | (simp; omega) | (simp only [block_of_add]; omega))).trans a7, (((Below.refl _ _).setCell (p := ⟨bX, oX, none⟩) hbX vX).cell (by first | omega | (simp; omega) | (simp only [block_of_add]; omega))).trans a8⟩)
        have HCL := Lib.hid (show ∀ W' : World, (Below wr.heap.size wr W' ∧ W'.cell? (ad.add (k * 8)) = some (.string y.m.name) ∧ W'.cell? ⟨(ad.add (k * 8)).block, (ad.add (k * 8)).off + 1, none⟩ = some (.int .i64 y.m.major) ∧ W'.cell? ⟨(ad.add (k * 8)).block, (ad.add (k * 8)).off + 2, none⟩ = some (.int .i64 y.m.minor) ∧ W'.cell? ⟨(ad.add (k * 8)).block, (ad.add (k * 8)).off + 3, none⟩ = some (.string y.m.text) ∧ W'.cell? ⟨(ad.add (k * 8)).block, (ad.add (k * 8)).off + 4, none⟩ = some (.slice y.m.eA y.m.ex.length y.m.eC) ∧ W'.cell? ⟨(ad.add (k * 8)).block, (ad.add (k * 8)).off + 5, none⟩ = some (.slice y.m.iA y.m.im.length y.m.iC) ∧ W'.cell? ⟨(ad.add (k * 8)).block, (ad.add (k * 8)).off + 6, none⟩ = some (.slice y.m.pA y.m.pa.length y.m.pC) ∧ W'.cell? ⟨(ad.add (k * 8)).block, (ad.add (k * 8)).off + 7, none⟩ = some (.int .i64 y.first) ∧ W'.cell? ⟨(ad.add (j * 8)).block, (ad.add (j * 8)).off + 7, none⟩ = some (.int .i64 z)) → Below wr.heap.size wr W' from fun W' hc => hc.1)
        clear hk h0 h1 h2 h3 h4 h5 h6 h7 g0 g1 g2 g3 g4 g5 g6 g7 hb
        by_cases t1 : z < N
        · have e1 := Lib.hid ((adjFrom_bad hlt hj1 (show l[j].first < endOf l[j - 1] by rw [show l[j - 1] = l[k]'hkl from HK.out hlt, ← HZ.out, ← HY.out, ← HN.out]; exact t1)).symm.trans HE.out)
          go_wp2_with fail
          go_region_held3 (fun W' => Below wr.heap.size wr W' ∧ W'.cell? (ad.add (k * 8)) = some (.string y.m.name) ∧ W'.cell? ⟨(ad.add (k * 8)).block, (ad.add (k * 8)).off + 1, none⟩ = some (.int .i64 y.m.major) ∧ W'.cell? ⟨(ad.add (k * 8)).block, (ad.add (k * 8)).off + 2, none⟩ = some (.int .i64 y.m.minor) ∧ W'.cell? ⟨(ad.add (k * 8)).block, (ad.add (k * 8)).off + 3, none⟩ = some (.string y.m.text) ∧ W'.cell? ⟨(ad.add (k * 8)).block, (ad.add (k * 8)).off + 4, none⟩ = some (.slice y.m.eA y.m.ex.length y.m.eC) ∧ W'.cell? ⟨(ad.add (k * 8)).block, (ad.add (k * 8)).off + 5, none⟩ = some (.slice y.m.iA y.m.im.length y.m.iC) ∧ W'.cell? ⟨(ad.add (k * 8)).block, (ad.add (k * 8)).off + 6, none⟩ = some (.slice y.m.pA y.m.pa.length y.m.pC) ∧ W'.cell? ⟨(ad.add (k * 8)).block, (ad.add (k * 8)).off + 7, none⟩ = some (.int .i64 y.first) ∧ W'.cell? ⟨(ad.add (j * 8)).block, (ad.add (j * 8)).off + 7, none⟩ = some (.int .i64 z)) (first | exact HC0.out | exact HCD.out _ HC0.out | exact HCS.out _ _ (by assumption) (by assumption) | exact HCS.out _ _ HC0.out (by assumption) | exact HCS.out _ _ (HCD.out _ HC0.out) (by assumption) | exact HCS.out _ _ (HCD.out _ (by assumption)) (by assumption) | exact HCD.out _ (by assumption) | exact HCA.out _ _ (by assumption) | exact HCA.out _ _ HC0.out | exact HCA.out _ _ (HCD.out _ HC0.out) | exact HCD.out _ (HCA.out _ _ (by assumption)) | exact HCA.out _ _ (HCS.out _ _ HC0.out (by assumption)) | exact HCA.out _ _ (HCS.out _ _ (HCD.out _ HC0.out) (by assumption)) | exact HCX.out _ _ _ _ (Nat.le_refl _) (by assumption) | exact HCX.out _ _ _ _ (Nat.le_refl _) (HCS.out _ _ (HCA.out _ _ HC0.out) (by assumption)) | exact HCX.out _ _ _ _ (Nat.le_refl _) (HCS.out _ _ (HCD.out _ (HCA.out _ _ HC0.out)) (by assumption)) | assumption) (first | (go_at_call 91; refine (cE.out _).mono ?_; rintro e w3 ⟨rfl, hb3⟩))
          have hB := HCL.out _ (by assumption)
          clear HC0 HCD HCS HCA
          go_wp2_with fail
          go_ret
          exact ⟨ret_int (e1.out.trans HR.out.symm), HB.out.trans (hB.mono (by omega))⟩
        · have e1 := Lib.hid ((adjFrom_next hlt hj1 (show ¬ l[j].first < endOf l[j - 1] by rw [show l[j - 1] = l[k]'hkl from HK.out hlt, ← HZ.out, ← HY.out, ← HN.out]; exact t1)).trans HE.out)
          have t1' : decide (z < N) = false := by simp; omega
          clear t1
          go_wp2_with fail
          go_region_held3 (fun W' => Below wr.heap.size wr W' ∧ W'.cell? (ad.add (k * 8)) = some (.string y.m.name) ∧ W'.cell? ⟨(ad.add (k * 8)).block, (ad.add (k * 8)).off + 1, none⟩ = some (.int .i64 y.m.major) ∧ W'.cell? ⟨(ad.add (k * 8)).block, (ad.add (k * 8)).off + 2, none⟩ = some (.int .i64 y.m.minor) ∧ W'.cell? ⟨(ad.add (k * 8)).block, (ad.add (k * 8)).off + 3, none⟩ = some (.string y.m.text) ∧ W'.cell? ⟨(ad.add (k * 8)).block, (ad.add (k * 8)).off + 4, none⟩ = some (.slice y.m.eA y.m.ex.length y.m.eC) ∧ W'.cell? ⟨(ad.add (k * 8)).block, (ad.add (k * 8)).off + 5, none⟩ = some (.slice y.m.iA y.m.im.length y.m.iC) ∧ W'.cell? ⟨(ad.add (k * 8)).block, (ad.add (k * 8)).off + 6, none⟩ = some (.slice y.m.pA y.m.pa.length y.m.pC) ∧ W'.cell? ⟨(ad.add (k * 8)).block, (ad.add (k * 8)).off + 7, none⟩ = some (.int .i64 y.first) ∧ W'.cell? ⟨(ad.add (j * 8)).block, (ad.add (j * 8)).off + 7, none⟩ = some (.int .i64 z)) (first | exact HC0.out | exact HCD.out _ HC0.out | exact HCS.out _ _ (by assumption) (by assumption) | exact HCS.out _ _ HC0.out (by assumption) | exact HCS.out _ _ (HCD.out _ HC0.out) (by assumption) | exact HCS.out _ _ (HCD.out _ (by assumption)) (by assumption) | exact HCD.out _ (by assumption) | exact HCA.out _ _ (by assumption) | exact HCA.out _ _ HC0.out | exact HCA.out _ _ (HCD.out _ HC0.out) | exact HCD.out _ (HCA.out _ _ (by assumption)) | exact HCA.out _ _ (HCS.out _ _ HC0.out (by assumption)) | exact HCA.out _ _ (HCS.out _ _ (HCD.out _ HC0.out) (by assumption)) | exact HCX.out _ _ _ _ (Nat.le_refl _) (by assumption) | exact HCX.out _ _ _ _ (Nat.le_refl _) (HCS.out _ _ (HCA.out _ _ HC0.out) (by assumption)) | exact HCX.out _ _ _ _ (Nat.le_refl _) (HCS.out _ _ (HCD.out _ (HCA.out _ _ HC0.out)) (by assumption)) | assumption) (first | (go_at_call 91; refine (cE.out _).mono ?_; rintro e w3 ⟨rfl, hb3⟩))
          have hB := HCL.out _ (by assumption)
          clear HC0 HCD HCS HCA
          go_wp2_with fail
          go_roundw
          case rel => exact ⟨j + 1, by omega, by omega, by go_num, e1.out, HB.out.trans (hB.mono (by omega))⟩
          case measure => (simp [intOf]; try omega)
      · have e1 := Lib.hid ((adjFrom_end hlt).symm.trans HE.out)
        go_wp2_with fail
        go_ret
        exact ⟨ret_int (e1.out.trans HR.out.symm), HB.out⟩
  · rw [if_pos t0] at hR
    have HR := Lib.hid hR
    have t0' : (E != 0) = true := by simp [t0]
    clear hE hR t0
    go_enter Tryz.func137, Tryz.ntmps137
    go_wp2_with (first | (go_at_call 198; refine (c1.out).mono ?_; rintro e w2 ⟨rfl, hb2⟩))
    go_ret
    exact ⟨ret_int HR.out.symm, hb2⟩

set_option maxHeartbeats 2000000 in
set_option maxRecDepth 100000 in
theorem CheckRegions_any (A : Option Addr) (c : Nat) (l : List Plc) (w : World) (h : PlsOk w A l) :
    Calls Tryz.prog 174 #[.slice A l.length c] w fun e w' => e = .returned (.int .i64 (regErr l)) ∧ Below w.heap.size w w' := by
  have hl := h.len
  unfold big at hl
  have HP := Lib.hid h
  have c1 := Lib.hid (CheckModules_any A c l true true w h)
  rw [refQ_reg] at c1
  obtain ⟨E, hE⟩ : ∃ E, E = modsAll regQ l := ⟨_, rfl⟩
  rw [← hE] at c1
  have hR : regErr l = if E ≠ 0 then E else adjErr l := by unfold regErr; rw [hE]
  clear h
  by_cases t0 : E = 0
  · obtain rfl := t0
    rw [if_neg (by omega)] at hR
    obtain ⟨h8, hall⟩ := modsAll_ok hE.symm
    have HALL := Lib.hid (show ∀ x ∈ l, x.m.text.size ≤ 256 ∧ 0 ≤ x.first ∧ x.first ≤ 16 ∧ 0 ≤ manyOf x.m ∧ manyOf x.m ≤ 4 from fun x hx => by
      obtain ⟨h1, h2⟩ := hall x hx
      have h3 := many_ok h1
      simp only [regQ, Bool.and_eq_true, decide_eq_true_eq] at h2
      exact ⟨(modErr_facts h1).2.2.1, by omega⟩)
    have HR := Lib.hid hR
    clear hE hR h8 hall
    go_enter Tryz.func174, Tryz.ntmps174
    go_wp2_with (first | (go_at_call 229; refine (c1.out).mono ?_; rintro e w2 ⟨rfl, hb2⟩))
    clear c1
    go_loopw [4] (fun i wr => ∃ j : Nat, 1 ≤ j ∧ (j ≤ l.length ∨ j = 1) ∧ i = .int .i64 j ∧ adjFrom l j = adjErr l ∧ Below w.heap.size w wr) (fun i _ => l.length - (intOf i).toNat)
    case atStart => exact ⟨1, by omega, by omega, rfl, adjFrom_one, hb2⟩
    case round =>
      obtain ⟨j, hj1, hj, rfl, hE, hb⟩ := hrel
      have HE := Lib.hid hE
      have HB := Lib.hid hb
      clear hE
      by_cases hlt : j < l.length
      · have hlt' : (j : Int) < l.length := by omega
        obtain ⟨ad, rfl, hab, h0, h1, h2, h3, h4, h5, h6, h7⟩ := plc_at HP.out.row hb j hlt
        obtain ⟨k, hk⟩ : ∃ k, j = k + 1 := ⟨j - 1, by omega⟩
        have hkl : k < l.length := by omega
        obtain ⟨ad', e', hab', g0, g1, g2, g3, g4, g5, g6, g7⟩ := plc_at HP.out.row hb k hkl
        obtain rfl := Option.some.inj e'
        have hwz := hb.size
        have q1 : IntKind.i64.wrap ((j : Int) - 1) = k := by rw [IntWalk.i64_in _ (by omega)]; omega
        have HK := Lib.hid (show ∀ (h : j < l.length), l[j - 1]'(Nat.lt_of_le_of_lt (Nat.sub_le _ _) h) = l[k]'hkl from fun h => by simp only [show j - 1 = k by omega])
        have q2 : (k : Int) < l.length := by omega
        have q3 : (0 : Int) ≤ k := by omega
        obtain ⟨f1, f2, f3, f4, f5⟩ := HALL.out (l[k]'hkl) (List.getElem_mem _)
        obtain ⟨y, hy⟩ : ∃ y, y = l[k]'hkl := ⟨_, rfl⟩
        rw [← hy] at f1 f2 f3 f4 f5 g0 g1 g2 g3 g4 g5 g6 g7
        have HY := Lib.hid hy
        obtain ⟨z, hz⟩ : ∃ z, z = l[j].first := ⟨_, rfl⟩
        rw [← hz] at h7
        have HZ := Lib.hid hz
        clear hy hz
        have cE := Lib.hid (fun W => SizeOf_any y.m W (by unfold big; omega))
        obtain ⟨N, hN⟩ : ∃ N, N = endOf y := ⟨_, rfl⟩
        obtain ⟨M, hM⟩ : ∃ M, M = manyOf y.m := ⟨_, rfl⟩
        rw [← hM] at cE f4 f5
        have q4 : IntKind.i64.wrap (y.first + M) = N := by rw [IntWalk.i64_in _ (by omega), hN, hM]; rfl
        clear hM
        have HN := Lib.hid hN
        clear f1 f2 f3 f4 f5 hN e'
        have hbm : (ad.add (j * 8)).block < wr.heap.size := by rw [block_of_add]; omega
        have hbn : (ad.add (k * 8)).block < wr.heap.size := by rw [block_of_add]; omega
        have HC0 := Lib.hid (show Below wr.heap.size wr wr ∧ wr.cell? (ad.add (k * 8)) = some (.string y.m.name) ∧ wr.cell? ⟨(ad.add (k * 8)).block, (ad.add (k * 8)).off + 1, none⟩ = some (.int .i64 y.m.major) ∧ wr.cell? ⟨(ad.add (k * 8)).block, (ad.add (k * 8)).off + 2, none⟩ = some (.int .i64 y.m.minor) ∧ wr.cell? ⟨(ad.add (k * 8)).block, (ad.add (k * 8)).off + 3, none⟩ = some (.string y.m.text) ∧ wr.cell? ⟨(ad.add (k * 8)).block, (ad.add (k * 8)).off + 4, none⟩ = some (.slice y.m.eA y.m.ex.length y.m.eC) ∧ wr.cell? ⟨(ad.add (k * 8)).block, (ad.add (k * 8)).off + 5, none⟩ = some (.slice y.m.iA y.m.im.length y.m.iC) ∧ wr.cell? ⟨(ad.add (k * 8)).block, (ad.add (k * 8)).off + 6, none⟩ = some (.slice y.m.pA y.m.pa.length y.m.pC) ∧ wr.cell? ⟨(ad.add (k * 8)).block, (ad.add (k * 8)).off + 7, none⟩ = some (.int .i64 y.first) ∧ wr.cell? ⟨(ad.add (j * 8)).block, (ad.add (j * 8)).off + 7, none⟩ = some (.int .i64 z) from ⟨Below.refl _ _, by assumption, by assumption, by assumption, by assumption, by assumption, by assumption, by assumption, by assumption, by assumption⟩)
        have HCD := Lib.hid (show ∀ W' : World, (Below wr.heap.size wr W' ∧ W'.cell? (ad.add (k * 8)) = some (.string y.m.name) ∧ W'.cell? ⟨(ad.add (k * 8)).block, (ad.add (k * 8)).off + 1, none⟩ = some (.int .i64 y.m.major) ∧ W'.cell? ⟨(ad.add (k * 8)).block, (ad.add (k * 8)).off + 2, none⟩ = some (.int .i64 y.m.minor) ∧ W'.cell? ⟨(ad.add (k * 8)).block, (ad.add (k * 8)).off + 3, none⟩ = some (.string y.m.text) ∧ W'.cell? ⟨(ad.add (k * 8)).block, (ad.add (k * 8)).off + 4, none⟩ = some (.slice y.m.eA y.m.ex.length y.m.eC) ∧ W'.cell? ⟨(ad.add (k * 8)).block, (ad.add (k * 8)).off + 5, none⟩ = some (.slice y.m.iA y.m.im.length y.m.iC) ∧ W'.cell? ⟨(ad.add (k * 8)).block, (ad.add (k * 8)).off + 6, none⟩ = some (.slice y.m.pA y.m.pa.length y.m.pC) ∧ W'.cell? ⟨(ad.add (k * 8)).block, (ad.add (k * 8)).off + 7, none⟩ = some (.int .i64 y.first) ∧ W'.cell? ⟨(ad.add (j * 8)).block, (ad.add (j * 8)).off + 7, none⟩ = some (.int .i64 z)) → (Below wr.heap.size wr W'.drew ∧ W'.drew.cell? (ad.add (k * 8)) = some (.string y.m.name) ∧ W'.drew.cell? ⟨(ad.add (k * 8)).block, (ad.add (k * 8)).off + 1, none⟩ = some (.int .i64 y.m.major) ∧ W'.drew.cell? ⟨(ad.add (k * 8)).block, (ad.add (k * 8)).off + 2, none⟩ = some (.int .i64 y.m.minor) ∧ W'.drew.cell? ⟨(ad.add (k * 8)).block, (ad.add (k * 8)).off + 3, none⟩ = some (.string y.m.text) ∧ W'.drew.cell? ⟨(ad.add (k * 8)).block, (ad.add (k * 8)).off + 4, none⟩ = some (.slice y.m.eA y.m.ex.length y.m.eC) ∧ W'.drew.cell? ⟨(ad.add (k * 8)).block, (ad.add (k * 8)).off + 5, none⟩ = some (.slice y.m.iA y.m.im.length y.m.iC) ∧ W'.drew.cell? ⟨(ad.add (k * 8)).block, (ad.add (k * 8)).off + 6, none⟩ = some (.slice y.m.pA y.m.pa.length y.m.pC) ∧ W'.drew.cell? ⟨(ad.add (k * 8)).block, (ad.add (k * 8)).off + 7, none⟩ = some (.int .i64 y.first) ∧ W'.drew.cell? ⟨(ad.add (j * 8)).block, (ad.add (j * 8)).off + 7, none⟩ = some (.int .i64 z)) from fun W' ⟨b, a0, a1, a2, a3, a4, a5, a6, a7, a8⟩ => ⟨b.drew, a0, a1, a2, a3, a4, a5, a6, a7, a8⟩)
        have HCS := Lib.hid (show ∀ W' W2 : World, (Below wr.heap.size wr W' ∧ W'.cell? (ad.add (k * 8)) = some (.string y.m.name) ∧ W'.cell? ⟨(ad.add (k * 8)).block, (ad.add (k * 8)).off + 1, none⟩ = some (.int .i64 y.m.major) ∧ W'.cell? ⟨(ad.add (k * 8)).block, (ad.add (k * 8)).off + 2, none⟩ = some (.int .i64 y.m.minor) ∧ W'.cell? ⟨(ad.add (k * 8)).block, (ad.add (k * 8)).off + 3, none⟩ = some (.string y.m.text) ∧ W'.cell? ⟨(ad.add (k * 8)).block, (ad.add (k * 8)).off + 4, none⟩ = some (.slice y.m.eA y.m.ex.length y.m.eC) ∧ W'.cell? ⟨(ad.add (k * 8)).block, (ad.add (k * 8)).off + 5, none⟩ = some (.slice y.m.iA y.m.im.length y.m.iC) ∧ W'.cell? ⟨(ad.add (k * 8)).block, (ad.add (k * 8)).off + 6, none⟩ = some (.slice y.m.pA y.m.pa.length y.m.pC) ∧ W'.cell? ⟨(ad.add (k * 8)).block, (ad.add (k * 8)).off + 7, none⟩ = some (.int .i64 y.first) ∧ W'.cell? ⟨(ad.add (j * 8)).block, (ad.add (j * 8)).off + 7, none⟩ = some (.int .i64 z)) → Below W'.heap.size W' W2 → (Below wr.heap.size wr W2 ∧ W2.cell? (ad.add (k * 8)) = some (.string y.m.name) ∧ W2.cell? ⟨(ad.add (k * 8)).block, (ad.add (k * 8)).off + 1, none⟩ = some (.int .i64 y.m.major) ∧ W2.cell? ⟨(ad.add (k * 8)).block, (ad.add (k * 8)).off + 2, none⟩ = some (.int .i64 y.m.minor) ∧ W2.cell? ⟨(ad.add (k * 8)).block, (ad.add (k * 8)).off + 3, none⟩ = some (.string y.m.text) ∧ W2.cell? ⟨(ad.add (k * 8)).block, (ad.add (k * 8)).off + 4, none⟩ = some (.slice y.m.eA y.m.ex.length y.m.eC) ∧ W2.cell? ⟨(ad.add (k * 8)).block, (ad.add (k * 8)).off + 5, none⟩ = some (.slice y.m.iA y.m.im.length y.m.iC) ∧ W2.cell? ⟨(ad.add (k * 8)).block, (ad.add (k * 8)).off + 6, none⟩ = some (.slice y.m.pA y.m.pa.length y.m.pC) ∧ W2.cell? ⟨(ad.add (k * 8)).block, (ad.add (k * 8)).off + 7, none⟩ = some (.int .i64 y.first) ∧ W2.cell? ⟨(ad.add (j * 8)).block, (ad.add (j * 8)).off + 7, none⟩ = some (.int .i64 z)) from fun W' W2 ⟨b, a0, a1, a2, a3, a4, a5, a6, a7, a8⟩ hb => have s := b.size; ⟨b.trans (hb.mono s), (hb.cell (by first | omega | (simp; omega) | (simp only [block_of_add]; omega))).trans a0, (hb.cell (by first | omega | (simp; omega) | (simp only [block_of_add]; omega))).trans a1, (hb.cell (by first | omega | (simp; omega) | (simp only [block_of_add]; omega))).trans a2, (hb.cell (by first | omega | (simp; omega) | (simp only [block_of_add]; omega))).trans a3, (hb.cell (by first | omega | (simp; omega) | (simp only [block_of_add]; omega))).trans a4, (hb.cell (by first | omega | (simp; omega) | (simp only [block_of_add]; omega))).trans a5, (hb.cell (by first | omega | (simp; omega) | (simp only [block_of_add]; omega))).trans a6, (hb.cell (by first | omega | (simp; omega) | (simp only [block_of_add]; omega))).trans a7, (hb.cell (by first | omega | (simp; omega) | (simp only [block_of_add]; omega))).trans a8⟩)
        have HCA := Lib.hid (show ∀ (W' : World) (o : Obj), (Below wr.heap.size wr W' ∧ W'.cell? (ad.add (k * 8)) = some (.string y.m.name) ∧ W'.cell? ⟨(ad.add (k * 8)).block, (ad.add (k * 8)).off + 1, none⟩ = some (.int .i64 y.m.major) ∧ W'.cell? ⟨(ad.add (k * 8)).block, (ad.add (k * 8)).off + 2, none⟩ = some (.int .i64 y.m.minor) ∧ W'.cell? ⟨(ad.add (k * 8)).block, (ad.add (k * 8)).off + 3, none⟩ = some (.string y.m.text) ∧ W'.cell? ⟨(ad.add (k * 8)).block, (ad.add (k * 8)).off + 4, none⟩ = some (.slice y.m.eA y.m.ex.length y.m.eC) ∧ W'.cell? ⟨(ad.add (k * 8)).block, (ad.add (k * 8)).off + 5, none⟩ = some (.slice y.m.iA y.m.im.length y.m.iC) ∧ W'.cell? ⟨(ad.add (k * 8)).block, (ad.add (k * 8)).off + 6, none⟩ = some (.slice y.m.pA y.m.pa.length y.m.pC) ∧ W'.cell? ⟨(ad.add (k * 8)).block, (ad.add (k * 8)).off + 7, none⟩ = some (.int .i64 y.first) ∧ W'.cell? ⟨(ad.add (j * 8)).block, (ad.add (j * 8)).off + 7, none⟩ = some (.int .i64 z)) → (Below wr.heap.size wr (W'.alloc o) ∧ (W'.alloc o).cell? (ad.add (k * 8)) = some (.string y.m.name) ∧ (W'.alloc o).cell? ⟨(ad.add (k * 8)).block, (ad.add (k * 8)).off + 1, none⟩ = some (.int .i64 y.m.major) ∧ (W'.alloc o).cell? ⟨(ad.add (k * 8)).block, (ad.add (k * 8)).off + 2, none⟩ = some (.int .i64 y.m.minor) ∧ (W'.alloc o).cell? ⟨(ad.add (k * 8)).block, (ad.add (k * 8)).off + 3, none⟩ = some (.string y.m.text) ∧ (W'.alloc o).cell? ⟨(ad.add (k * 8)).block, (ad.add (k * 8)).off + 4, none⟩ = some (.slice y.m.eA y.m.ex.length y.m.eC) ∧ (W'.alloc o).cell? ⟨(ad.add (k * 8)).block, (ad.add (k * 8)).off + 5, none⟩ = some (.slice y.m.iA y.m.im.length y.m.iC) ∧ (W'.alloc o).cell? ⟨(ad.add (k * 8)).block, (ad.add (k * 8)).off + 6, none⟩ = some (.slice y.m.pA y.m.pa.length y.m.pC) ∧ (W'.alloc o).cell? ⟨(ad.add (k * 8)).block, (ad.add (k * 8)).off + 7, none⟩ = some (.int .i64 y.first) ∧ (W'.alloc o).cell? ⟨(ad.add (j * 8)).block, (ad.add (j * 8)).off + 7, none⟩ = some (.int .i64 z)) from fun W' o hc => HCS.out W' (W'.alloc o) hc ((Below.refl _ _).alloc (Nat.le_refl _) o))
        have HCX := Lib.hid (show ∀ (W' : World) (bX oX : Nat) (vX : Value), wr.heap.size ≤ bX → (Below wr.heap.size wr W' ∧ W'.cell? (ad.add (k * 8)) = some (.string y.m.name) ∧ W'.cell? ⟨(ad.add (k * 8)).block, (ad.add (k * 8)).off + 1, none⟩ = some (.int .i64 y.m.major) ∧ W'.cell? ⟨(ad.add (k * 8)).block, (ad.add (k * 8)).off + 2, none⟩ = some (.int .i64 y.m.minor) ∧ W'.cell? ⟨(ad.add (k * 8)).block, (ad.add (k * 8)).off + 3, none⟩ = some (.string y.m.text) ∧ W'.cell? ⟨(ad.add (k * 8)).block, (ad.add (k * 8)).off + 4, none⟩ = some (.slice y.m.eA y.m.ex.length y.m.eC) ∧ W'.cell? ⟨(ad.add (k * 8)).block, (ad.add (k * 8)).off + 5, none⟩ = some (.slice y.m.iA y.m.im.length y.m.iC) ∧ W'.cell? ⟨(ad.add (k * 8)).block, (ad.add (k * 8)).off + 6, none⟩ = some (.slice y.m.pA y.m.pa.length y.m.pC) ∧ W'.cell? ⟨(ad.add (k * 8)).block, (ad.add (k * 8)).off + 7, none⟩ = some (.int .i64 y.first) ∧ W'.cell? ⟨(ad.add (j * 8)).block, (ad.add (j * 8)).off + 7, none⟩ = some (.int .i64 z)) → (Below wr.heap.size wr (W'.setCell ⟨bX, oX, none⟩ vX) ∧ (W'.setCell ⟨bX, oX, none⟩ vX).cell? (ad.add (k * 8)) = some (.string y.m.name) ∧ (W'.setCell ⟨bX, oX, none⟩ vX).cell? ⟨(ad.add (k * 8)).block, (ad.add (k * 8)).off + 1, none⟩ = some (.int .i64 y.m.major) ∧ (W'.setCell ⟨bX, oX, none⟩ vX).cell? ⟨(ad.add (k * 8)).block, (ad.add (k * 8)).off + 2, none⟩ = some (.int .i64 y.m.minor) ∧ (W'.setCell ⟨bX, oX, none⟩ vX).cell? ⟨(ad.add (k * 8)).block, (ad.add (k * 8)).off + 3, none⟩ = some (.string y.m.text) ∧ (W'.setCell ⟨bX, oX, none⟩ vX).cell? ⟨(ad.add (k * 8)).block, (ad.add (k * 8)).off + 4, none⟩ = some (.slice y.m.eA y.m.ex.length y.m.eC) ∧ (W'.setCell ⟨bX, oX, none⟩ vX).cell? ⟨(ad.add (k * 8)).block, (ad.add (k * 8)).off + 5, none⟩ = some (.slice y.m.iA y.m.im.length y.m.iC) ∧ (W'.setCell ⟨bX, oX, none⟩ vX).cell? ⟨(ad.add (k * 8)).block, (ad.add (k * 8)).off + 6, none⟩ = some (.slice y.m.pA y.m.pa.length y.m.pC) ∧ (W'.setCell ⟨bX, oX, none⟩ vX).cell? ⟨(ad.add (k * 8)).block, (ad.add (k * 8)).off + 7, none⟩ = some (.int .i64 y.first) ∧ (W'.setCell ⟨bX, oX, none⟩ vX).cell? ⟨(ad.add (j * 8)).block, (ad.add (j * 8)).off + 7, none⟩ = some (.int .i64 z)) from fun W' bX oX vX hbX ⟨b, a0, a1, a2, a3, a4, a5, a6, a7, a8⟩ => ⟨b.setCell (p := ⟨bX, oX, none⟩) hbX vX, (((Below.refl _ _).setCell (p := ⟨bX, oX, none⟩) hbX vX).cell (by first | omega | (simp; omega) | (simp only [block_of_add]; omega))).trans a0, (((Below.refl _ _).setCell (p := ⟨bX, oX, none⟩) hbX vX).cell (by first | omega | (simp; omega) | (simp only [block_of_add]; omega))).trans a1, (((Below.refl _ _).setCell (p := ⟨bX, oX, none⟩) hbX vX).cell (by first | omega | (simp; omega) | (simp only [block_of_add]; omega))).trans a2, (((Below.refl _ _).setCell (p := ⟨bX, oX, none⟩) hbX vX).cell (by first | omega | (simp; omega) | (simp only [block_of_add]; omega))).trans a3, (((Below.refl _ _).setCell (p := ⟨bX, oX, none⟩) hbX vX).cell (by first | omega | (simp; omega) | (simp only [block_of_add]; omega))).trans a4, (((Below.refl _ _).setCell (p := ⟨bX, oX, none⟩) hbX vX).cell (by first | omega | (simp; omega) | (simp only [block_of_add]; omega))).trans a5, (((Below.refl _ _).setCell (p := ⟨bX, oX, none⟩) hbX vX).cell (by first | omega | (simp; omega) | (simp only [block_of_add]; omega))).trans a6, (((Below.refl _ _).setCell (p := ⟨bX, oX, none⟩) hbX vX).cell (by first | omega | (simp; omega) | (simp only [block_of_add]; omega))).trans a7, (((Below.refl _ _).setCell (p := ⟨bX, oX, none⟩) hbX vX).cell (by first | omega | (simp; omega) | (simp only [block_of_add]; omega))).trans a8⟩)
        have HCL := Lib.hid (show ∀ W' : World, (Below wr.heap.size wr W' ∧ W'.cell? (ad.add (k * 8)) = some (.string y.m.name) ∧ W'.cell? ⟨(ad.add (k * 8)).block, (ad.add (k * 8)).off + 1, none⟩ = some (.int .i64 y.m.major) ∧ W'.cell? ⟨(ad.add (k * 8)).block, (ad.add (k * 8)).off + 2, none⟩ = some (.int .i64 y.m.minor) ∧ W'.cell? ⟨(ad.add (k * 8)).block, (ad.add (k * 8)).off + 3, none⟩ = some (.string y.m.text) ∧ W'.cell? ⟨(ad.add (k * 8)).block, (ad.add (k * 8)).off + 4, none⟩ = some (.slice y.m.eA y.m.ex.length y.m.eC) ∧ W'.cell? ⟨(ad.add (k * 8)).block, (ad.add (k * 8)).off + 5, none⟩ = some (.slice y.m.iA y.m.im.length y.m.iC) ∧ W'.cell? ⟨(ad.add (k * 8)).block, (ad.add (k * 8)).off + 6, none⟩ = some (.slice y.m.pA y.m.pa.length y.m.pC) ∧ W'.cell? ⟨(ad.add (k * 8)).block, (ad.add (k * 8)).off + 7, none⟩ = some (.int .i64 y.first) ∧ W'.cell? ⟨(ad.add (j * 8)).block, (ad.add (j * 8)).off + 7, none⟩ = some (.int .i64 z)) → Below wr.heap.size wr W' from fun W' hc => hc.1)
        clear hk h0 h1 h2 h3 h4 h5 h6 h7 g0 g1 g2 g3 g4 g5 g6 g7 hb
        by_cases t1 : z < N
        · have e1 := Lib.hid ((adjFrom_bad hlt hj1 (show l[j].first < endOf l[j - 1] by rw [show l[j - 1] = l[k]'hkl from HK.out hlt, ← HZ.out, ← HY.out, ← HN.out]; exact t1)).symm.trans HE.out)
          go_wp2_with fail
          go_region_held3 (fun W' => Below wr.heap.size wr W' ∧ W'.cell? (ad.add (k * 8)) = some (.string y.m.name) ∧ W'.cell? ⟨(ad.add (k * 8)).block, (ad.add (k * 8)).off + 1, none⟩ = some (.int .i64 y.m.major) ∧ W'.cell? ⟨(ad.add (k * 8)).block, (ad.add (k * 8)).off + 2, none⟩ = some (.int .i64 y.m.minor) ∧ W'.cell? ⟨(ad.add (k * 8)).block, (ad.add (k * 8)).off + 3, none⟩ = some (.string y.m.text) ∧ W'.cell? ⟨(ad.add (k * 8)).block, (ad.add (k * 8)).off + 4, none⟩ = some (.slice y.m.eA y.m.ex.length y.m.eC) ∧ W'.cell? ⟨(ad.add (k * 8)).block, (ad.add (k * 8)).off + 5, none⟩ = some (.slice y.m.iA y.m.im.length y.m.iC) ∧ W'.cell? ⟨(ad.add (k * 8)).block, (ad.add (k * 8)).off + 6, none⟩ = some (.slice y.m.pA y.m.pa.length y.m.pC) ∧ W'.cell? ⟨(ad.add (k * 8)).block, (ad.add (k * 8)).off + 7, none⟩ = some (.int .i64 y.first) ∧ W'.cell? ⟨(ad.add (j * 8)).block, (ad.add (j * 8)).off + 7, none⟩ = some (.int .i64 z)) (first | exact HC0.out | exact HCD.out _ HC0.out | exact HCS.out _ _ (by assumption) (by assumption) | exact HCS.out _ _ HC0.out (by assumption) | exact HCS.out _ _ (HCD.out _ HC0.out) (by assumption) | exact HCS.out _ _ (HCD.out _ (by assumption)) (by assumption) | exact HCD.out _ (by assumption) | exact HCA.out _ _ (by assumption) | exact HCA.out _ _ HC0.out | exact HCA.out _ _ (HCD.out _ HC0.out) | exact HCD.out _ (HCA.out _ _ (by assumption)) | exact HCA.out _ _ (HCS.out _ _ HC0.out (by assumption)) | exact HCA.out _ _ (HCS.out _ _ (HCD.out _ HC0.out) (by assumption)) | exact HCX.out _ _ _ _ (Nat.le_refl _) (by assumption) | exact HCX.out _ _ _ _ (Nat.le_refl _) (HCS.out _ _ (HCA.out _ _ HC0.out) (by assumption)) | exact HCX.out _ _ _ _ (Nat.le_refl _) (HCS.out _ _ (HCD.out _ (HCA.out _ _ HC0.out)) (by assumption)) | assumption) (first | (go_at_call 107; refine (cE.out _).mono ?_; rintro e w3 ⟨rfl, hb3⟩))
          have hB := HCL.out _ (by assumption)
          clear HC0 HCD HCS HCA
          go_wp2_with fail
          go_ret
          exact ⟨ret_int (e1.out.trans HR.out.symm), HB.out.trans (hB.mono (by omega))⟩
        · have e1 := Lib.hid ((adjFrom_next hlt hj1 (show ¬ l[j].first < endOf l[j - 1] by rw [show l[j - 1] = l[k]'hkl from HK.out hlt, ← HZ.out, ← HY.out, ← HN.out]; exact t1)).trans HE.out)
          have t1' : decide (z < N) = false := by simp; omega
          clear t1
          go_wp2_with fail
          go_region_held3 (fun W' => Below wr.heap.size wr W' ∧ W'.cell? (ad.add (k * 8)) = some (.string y.m.name) ∧ W'.cell? ⟨(ad.add (k * 8)).block, (ad.add (k * 8)).off + 1, none⟩ = some (.int .i64 y.m.major) ∧ W'.cell? ⟨(ad.add (k * 8)).block, (ad.add (k * 8)).off + 2, none⟩ = some (.int .i64 y.m.minor) ∧ W'.cell? ⟨(ad.add (k * 8)).block, (ad.add (k * 8)).off + 3, none⟩ = some (.string y.m.text) ∧ W'.cell? ⟨(ad.add (k * 8)).block, (ad.add (k * 8)).off + 4, none⟩ = some (.slice y.m.eA y.m.ex.length y.m.eC) ∧ W'.cell? ⟨(ad.add (k * 8)).block, (ad.add (k * 8)).off + 5, none⟩ = some (.slice y.m.iA y.m.im.length y.m.iC) ∧ W'.cell? ⟨(ad.add (k * 8)).block, (ad.add (k * 8)).off + 6, none⟩ = some (.slice y.m.pA y.m.pa.length y.m.pC) ∧ W'.cell? ⟨(ad.add (k * 8)).block, (ad.add (k * 8)).off + 7, none⟩ = some (.int .i64 y.first) ∧ W'.cell? ⟨(ad.add (j * 8)).block, (ad.add (j * 8)).off + 7, none⟩ = some (.int .i64 z)) (first | exact HC0.out | exact HCD.out _ HC0.out | exact HCS.out _ _ (by assumption) (by assumption) | exact HCS.out _ _ HC0.out (by assumption) | exact HCS.out _ _ (HCD.out _ HC0.out) (by assumption) | exact HCS.out _ _ (HCD.out _ (by assumption)) (by assumption) | exact HCD.out _ (by assumption) | exact HCA.out _ _ (by assumption) | exact HCA.out _ _ HC0.out | exact HCA.out _ _ (HCD.out _ HC0.out) | exact HCD.out _ (HCA.out _ _ (by assumption)) | exact HCA.out _ _ (HCS.out _ _ HC0.out (by assumption)) | exact HCA.out _ _ (HCS.out _ _ (HCD.out _ HC0.out) (by assumption)) | exact HCX.out _ _ _ _ (Nat.le_refl _) (by assumption) | exact HCX.out _ _ _ _ (Nat.le_refl _) (HCS.out _ _ (HCA.out _ _ HC0.out) (by assumption)) | exact HCX.out _ _ _ _ (Nat.le_refl _) (HCS.out _ _ (HCD.out _ (HCA.out _ _ HC0.out)) (by assumption)) | assumption) (first | (go_at_call 107; refine (cE.out _).mono ?_; rintro e w3 ⟨rfl, hb3⟩))
          have hB := HCL.out _ (by assumption)
          clear HC0 HCD HCS HCA
          go_wp2_with fail
          go_roundw
          case rel => exact ⟨j + 1, by omega, by omega, by go_num, e1.out, HB.out.trans (hB.mono (by omega))⟩
          case measure => (simp [intOf]; try omega)
      · have e1 := Lib.hid ((adjFrom_end hlt).symm.trans HE.out)
        go_wp2_with fail
        go_ret
        exact ⟨ret_int (e1.out.trans HR.out.symm), HB.out⟩
  · rw [if_pos t0] at hR
    have HR := Lib.hid hR
    have t0' : (E != 0) = true := by simp [t0]
    clear hE hR t0
    go_enter Tryz.func174, Tryz.ntmps174
    go_wp2_with (first | (go_at_call 229; refine (c1.out).mono ?_; rintro e w2 ⟨rfl, hb2⟩))
    go_ret
    exact ⟨ret_int HR.out.symm, hb2⟩


end Go.Proofs.YtjiedaialianmaaGreat
end

section

namespace Go.Proofs.YtjiedaialianmaaGreat
open Go.RowKit

set_option maxHeartbeats 2000000 in
set_option maxRecDepth 100000 in
theorem IdxPlc_any (A : Option Addr) (c : Nat) (l : List Plc) (g : Nat) (lb : Array Value) (q : Plc → Bool) (w : World) (eg : ∀ args w, (callFunc g args).run Tryz.prog w = .ok (.enter g args) w) (h : Row Plc.cells 8 w A l) (hl : l.length ≤ big)
    (hq : ∀ x ∈ l, ∀ W, Below w.heap.size w W → Calls Tryz.prog g (#[x.v] ++ lb) W fun e w' => e = .returned (.bool (q x)) ∧ Below W.heap.size W w') :
    Calls Tryz.prog 191 #[.slice A l.length c, .func (.func g) #[] lb] w fun e w' => e = .returned (.int .i64 (idxOf q l)) ∧ Below w.heap.size w w' := by
  unfold big at hl
  have HP := Lib.hid h
  have HQ := Lib.hid hq
  clear h hq
  go_enter Tryz.func191, Tryz.ntmps191
  go_wp2_with fail
  go_loopw [8] (fun i wr => ∃ j : Nat, j ≤ l.length ∧ i = .int .i64 j ∧ (∀ k (hk : k < l.length), k < j → q l[k] = false) ∧ Below w.heap.size w wr) (fun i _ => l.length - (intOf i).toNat)
  case atStart => exact ⟨0, by omega, rfl, by omega, Below.refl _ _⟩
  case round =>
    obtain ⟨j, hj, rfl, hN, hb⟩ := hrel
    have HN := Lib.hid hN
    have HB := Lib.hid hb
    clear hN
    by_cases hlt : j < l.length
    · have hlt' : (j : Int) < l.length := by omega
      obtain ⟨ad, rfl, hab, h0, h1, h2, h3, h4, h5, h6, h7⟩ := plc_at HP.out hb j hlt
      have hwz := hb.size
      have c2 := Lib.hid (show Calls Tryz.prog g (#[(l[j]'hlt).v] ++ lb) wr fun e w' => e = .returned (.bool (q (l[j]'hlt))) ∧ Below wr.heap.size wr w' from HQ.out (l[j]'hlt) (List.getElem_mem _) wr HB.out)
      obtain ⟨bq, hbq⟩ : ∃ bq, bq = q (l[j]'hlt) := ⟨_, rfl⟩
      rw [← hbq] at c2
      have HBQ := Lib.hid hbq
      clear hbq hb
      cases bq
      · go_wp2_with (go_at_fn g; refine (c2.out).mono ?_; rintro e w3 ⟨rfl, hb3⟩)
        go_roundw
        case rel => exact ⟨j + 1, by omega, by go_num, fun k hk hkj => by rcases Nat.lt_succ_iff_lt_or_eq.1 hkj with h | rfl; exact HN.out k hk h; exact HBQ.out.symm, HB.out.trans (hb3.mono (by omega))⟩
        case measure => (simp [intOf]; try omega)
      · have e1 := Lib.hid (idxOf_some hlt HN.out HBQ.out.symm)
        go_wp2_with (go_at_fn g; refine (c2.out).mono ?_; rintro e w3 ⟨rfl, hb3⟩)
        go_ret
        exact ⟨ret_int e1.out.symm, HB.out.trans (hb3.mono (by omega))⟩
    · have e1 := Lib.hid (idxOf_none (q := q) (l := l) (fun k hk => HN.out k hk (by omega)))
      go_wp2_with fail
      go_ret
      exact ⟨ret_int e1.out.symm, HB.out⟩

set_option maxHeartbeats 2000000 in
set_option maxRecDepth 100000 in
theorem IdxExp_any (A : Option Addr) (c : Nat) (l : List Exp) (g : Nat) (lb : Array Value) (q : Exp → Bool) (w : World) (eg : ∀ args w, (callFunc g args).run Tryz.prog w = .ok (.enter g args) w) (h : Row Exp.cells 2 w A l) (hl : l.length ≤ big)
    (hq : ∀ x ∈ l, ∀ W, Below w.heap.size w W → Calls Tryz.prog g (#[x.v] ++ lb) W fun e w' => e = .returned (.bool (q x)) ∧ Below W.heap.size W w') :
    Calls Tryz.prog 261 #[.slice A l.length c, .func (.func g) #[] lb] w fun e w' => e = .returned (.int .i64 (idxOf q l)) ∧ Below w.heap.size w w' := by
  unfold big at hl
  have HP := Lib.hid h
  have HQ := Lib.hid hq
  clear h hq
  go_enter Tryz.func261, Tryz.ntmps261
  go_wp2_with fail
  go_loopw [8] (fun i wr => ∃ j : Nat, j ≤ l.length ∧ i = .int .i64 j ∧ (∀ k (hk : k < l.length), k < j → q l[k] = false) ∧ Below w.heap.size w wr) (fun i _ => l.length - (intOf i).toNat)
  case atStart => exact ⟨0, by omega, rfl, by omega, Below.refl _ _⟩
  case round =>
    obtain ⟨j, hj, rfl, hN, hb⟩ := hrel
    have HN := Lib.hid hN
    have HB := Lib.hid hb
    clear hN
    by_cases hlt : j < l.length
    · have hlt' : (j : Int) < l.length := by omega
      obtain ⟨ad, rfl, hab, h0, h1⟩ := exp_at HP.out hb j hlt
      have hwz := hb.size
      have c2 := Lib.hid (show Calls Tryz.prog g (#[(l[j]'hlt).v] ++ lb) wr fun e w' => e = .returned (.bool (q (l[j]'hlt))) ∧ Below wr.heap.size wr w' from HQ.out (l[j]'hlt) (List.getElem_mem _) wr HB.out)
      obtain ⟨bq, hbq⟩ : ∃ bq, bq = q (l[j]'hlt) := ⟨_, rfl⟩
      rw [← hbq] at c2
      have HBQ := Lib.hid hbq
      clear hbq hb
      cases bq
      · go_wp2_with (go_at_fn g; refine (c2.out).mono ?_; rintro e w3 ⟨rfl, hb3⟩)
        go_roundw
        case rel => exact ⟨j + 1, by omega, by go_num, fun k hk hkj => by rcases Nat.lt_succ_iff_lt_or_eq.1 hkj with h | rfl; exact HN.out k hk h; exact HBQ.out.symm, HB.out.trans (hb3.mono (by omega))⟩
        case measure => (simp [intOf]; try omega)
      · have e1 := Lib.hid (idxOf_some hlt HN.out HBQ.out.symm)
        go_wp2_with (go_at_fn g; refine (c2.out).mono ?_; rintro e w3 ⟨rfl, hb3⟩)
        go_ret
        exact ⟨ret_int e1.out.symm, HB.out.trans (hb3.mono (by omega))⟩
    · have e1 := Lib.hid (idxOf_none (q := q) (l := l) (fun k hk => HN.out k hk (by omega)))
      go_wp2_with fail
      go_ret
      exact ⟨ret_int e1.out.symm, HB.out⟩

set_option maxHeartbeats 1000000 in
set_option maxRecDepth 100000 in
theorem named_any (x : Plc) (nm : ByteArray) (B : Nat) (w : World) (hB : B < w.heap.size) (h : w.cell? ⟨B, 0, none⟩ = some (.string nm)) :
    Calls Tryz.prog 192 (#[x.v] ++ #[.pointer (some ⟨B, 0, none⟩)]) w fun e w' => e = .returned (.bool (named nm x)) ∧ Below w.heap.size w w' := by
  have hd : named nm x = (x.m.name.toList == nm.toList) := by
    unfold named
    by_cases e : x.m.name = nm
    · rw [str_eq e]; simp [e]
    · rw [str_ne e]; simp [e]
  rw [hd]
  go_enter Tryz.func192, Tryz.ntmps192
  go_wp2_with fail
  go_ret
  exact ⟨rfl, (Below.refl _ _).alloc (Nat.le_refl _) _⟩
set_option maxHeartbeats 1000000 in
set_option maxRecDepth 100000 in
theorem called_any (x : Exp) (nm : ByteArray) (B : Nat) (w : World) (hB : B < w.heap.size) (h : w.cell? ⟨B, 0, none⟩ = some (.string nm)) :
    Calls Tryz.prog 262 (#[x.v] ++ #[.pointer (some ⟨B, 0, none⟩)]) w fun e w' => e = .returned (.bool (called nm x)) ∧ Below w.heap.size w w' := by
  have hd : called nm x = (x.name.toList == nm.toList) := by
    unfold called
    by_cases e : x.name = nm
    · rw [str_eq e]; simp [e]
    · rw [str_ne e]; simp [e]
  rw [hd]
  go_enter Tryz.func262, Tryz.ntmps262
  go_wp2_with fail
  go_ret
  exact ⟨rfl, (Below.refl _ _).alloc (Nat.le_refl _) _⟩

set_option maxHeartbeats 1000000 in
set_option maxRecDepth 100000 in
theorem Place_any (A : Option Addr) (c : Nat) (l : List Plc) (nm : ByteArray) (w : World) (h : Row Plc.cells 8 w A l) (hl : l.length ≤ big) :
    Calls Tryz.prog 124 #[.slice A l.length c, .string nm] w fun e w' => e = .returned (.int .i64 (idxOf (named nm) l)) ∧ Below w.heap.size w w' := by
  obtain ⟨w0, hw0⟩ : ∃ w0, w0 = w.alloc (.cells #[.string nm] 9) := ⟨_, rfl⟩
  have hc0 : w0.cell? ⟨w.heap.size, 0, none⟩ = some (.string nm) := by rw [hw0, World.cell?_alloc_new]; rfl
  have hz0 : w0.heap.size = w.heap.size + 1 := by rw [hw0]; simp
  have hb0 : Below w.heap.size w w0 := hw0 ▸ (Below.refl _ _).alloc (Nat.le_refl _) _
  have c1 := Lib.hid (IdxPlc_any A c l 192 #[.pointer (some ⟨w.heap.size, 0, none⟩)] (named nm) w0 (enters_of Tryz.func192 (by kernel_rfl) rfl) (h.below hb0) hl
    (fun x _ W hb => named_any x nm w.heap.size W (by have := hb.size; omega) ((hb.cell (by simp; omega)).trans hc0)))
  have H0 := Lib.hid hb0
  have hw0' := hw0.symm
  clear hw0 hb0
  go_enter Tryz.func124, Tryz.ntmps124
  go_wp2_with (first | (go_at_call 191; (with_reducible refine (c1.out).mono ?_); rintro e w1 ⟨rfl, hb1⟩))
  go_ret
  exact ⟨rfl, H0.out.trans (hb1.mono (by omega))⟩

def expOk (l : List Exp) (nm : ByteArray) : Bool := decide ((expAt l nm).2 = 0)
theorem expAt_some {l : List Exp} {nm : ByteArray} {j : Nat} (h : j < l.length) (e : l.find? (called nm) = some l[j]) : expAt l nm = (l[j].at_, 0) := by unfold expAt; rw [e]
theorem expAt_none {l : List Exp} {nm : ByteArray} (e : l.find? (called nm) = none) : expAt l nm = (0, 5) := by unfold expAt; rw [e]
theorem expAt_cases (l : List Exp) (nm : ByteArray) : (expAt l nm).2 = 0 ∨ ((expAt l nm).1 = 0 ∧ (expAt l nm).2 = 5) := by
  unfold expAt; split <;> simp

set_option maxHeartbeats 1000000 in
set_option maxRecDepth 100000 in
theorem export_any (A : Option Addr) (c : Nat) (l : List Exp) (nm : ByteArray) (w : World) (h : ExpsOk w A l) :
    Calls Tryz.prog 236 #[.slice A l.length c, .string nm] w fun e w' => e = .returned (.tuple #[.int .i64 (expAt l nm).1, .bool (expOk l nm)]) ∧ Below w.heap.size w w' := by
  obtain ⟨h, hl, _⟩ := h
  obtain ⟨w0, hw0⟩ : ∃ w0, w0 = w.alloc (.cells #[.string nm] 9) := ⟨_, rfl⟩
  have hc0 : w0.cell? ⟨w.heap.size, 0, none⟩ = some (.string nm) := by rw [hw0, World.cell?_alloc_new]; rfl
  have hz0 : w0.heap.size = w.heap.size + 1 := by rw [hw0]; simp
  have hb0 : Below w.heap.size w w0 := hw0 ▸ (Below.refl _ _).alloc (Nat.le_refl _) _
  have c1 := Lib.hid (IdxExp_any A c l 262 #[.pointer (some ⟨w.heap.size, 0, none⟩)] (called nm) w0 (enters_of Tryz.func262 (by kernel_rfl) rfl) (h.below hb0) hl
    (fun x _ W hb => called_any x nm w.heap.size W (by have := hb.size; omega) ((hb.cell (by simp; omega)).trans hc0)))
  have H0 := Lib.hid hb0
  have HR := Lib.hid h
  have hw0' := hw0.symm
  unfold big at hl
  clear hw0 hb0 h
  rcases find_cases (called nm) l with ⟨e1, e2⟩ | ⟨j, hj, e1, e2⟩
  · have ev := Lib.hid (expAt_none e2)
    rw [e1] at c1
    clear e1 e2
    go_enter Tryz.func236, Tryz.ntmps236
    go_wp2_with (first | (go_at_call 261; (with_reducible refine (c1.out).mono ?_); rintro e w1 ⟨rfl, hb1⟩))
    go_ret2
    exact ⟨by unfold expOk; rw [ev.out]; rfl, H0.out.trans (hb1.mono (by omega))⟩
  · have ev := Lib.hid (expAt_some hj e2)
    rw [e1] at c1
    have hj' : (j : Int) < l.length := by omega
    have HK := Lib.hid (fun W (hbW : Below w.heap.size w W) => exp_at HR.out hbW j hj)
    obtain ⟨ad, rfl, _⟩ := exp_at HR.out (Below.refl _ _) j hj
    clear e1 e2
    go_enter Tryz.func236, Tryz.ntmps236
    go_wp2_with (go_at_call 261; refine (c1.out).mono ?_; rintro e w1 ⟨rfl, hb1⟩; obtain ⟨_, ead, _, k0, k1⟩ := HK.out _ (H0.out.trans (hb1.mono (by omega))); obtain rfl := Option.some.inj ead)
    go_ret2
    exact ⟨by unfold expOk; rw [ev.out]; rfl, H0.out.trans (hb1.mono (by omega))⟩

end Go.Proofs.YtjiedaialianmaaGreat
end
