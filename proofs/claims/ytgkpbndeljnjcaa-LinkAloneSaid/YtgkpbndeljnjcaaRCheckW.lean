import Derived.Test.YtgkpbndeljnjcaaExpW
import Derived.Test.YtgkpbndeljnjcaaCheckW
/- The document's CheckModule: it tells modErr. -/
namespace Go.Proofs.Ytgkpbndeljnjcaa
open Go.RowKit

set_option maxHeartbeats 16000000 in
set_option maxRecDepth 100000 in
theorem CheckModule_any (m : Mod) (w : World) (h : m.ok w) :
    Calls Try.prog 56 #[m.v] w fun e w' => e = .returned (.int .i64 (modErr m)) ∧ Below w.heap.size w w' := by
  obtain ⟨hex, him, hpa, hnm, htx⟩ := h
  obtain ⟨nm, mj, mn, tx, ex, im, pa, eA, eC, iA, iC, pA, pC⟩ := m
  simp only at hex him hpa hnm htx
  obtain ⟨w0, hw0⟩ : ∃ w0, w0 = w.alloc (.cells #[.string nm, .int .i64 mj, .int .i64 mn, .string tx, .slice eA ex.length eC, .slice iA im.length iC, .slice pA pa.length pC] 42) := ⟨_, rfl⟩
  obtain ⟨g0, g1, g2, g3, g4, g5, g6, hz, hb0⟩ := box7 hw0
  have hz0 : w.heap.size < w0.heap.size := by omega
  have H0 := Lib.hid hb0
  have HZ := Lib.hid hz
  have hw0' := hw0.symm
  clear hw0 hb0 hz
  obtain ⟨E, hE⟩ : ∃ E, E = modErr ⟨nm, mj, mn, tx, ex, im, pa, eA, eC, iA, iC, pA, pC⟩ := ⟨_, rfl⟩
  rw [← hE]
  have hl1 := hex.2.1
  have hl2 := him.2.1
  have hl3 := hpa.2
  have ht := htx
  unfold big at hl1 hl2 hl3 ht
  have z1 := Lib.hid (show (tx.size : Int) ≤ big by unfold big; omega)
  have HEX := Lib.hid hex
  have HIM := Lib.hid him
  have HPA := Lib.hid hpa
  have hme : modErr ⟨nm, mj, mn, tx, ex, im, pa, eA, eC, iA, iC, pA, pC⟩ = if isName nm = false ∨ nm = kernelBytes then 1
    else if mj < 0 ∨ 255 < mj ∨ mn < 0 ∨ 255 < mn then 3
    else if 256 < tx.size ∨ 6 < ex.length ∨ 6 < im.length ∨ 12 < pa.length then 2
    else if tx.size = 0 ∨ tx.size % 4 ≠ 0 then 1
    else if expErr [] tx.size ex ≠ 0 then expErr [] tx.size ex
    else if impsErr [] im ≠ 0 then impsErr [] im
    else patsErr tx.size im.length 0 pa := rfl
  rw [hme] at hE
  have c1 := Lib.hid (fun W => IsName_any nm W hnm)
  have c3 := Lib.hid (fun W (hb : Below w.heap.size w W) => CheckExports_any eA eC ex tx.size W ⟨HEX.out.1.below hb, HEX.out.2⟩ (by omega) z1.out)
  have kq := kernel_eq nm
  clear hme hnm hex him hpa htx
  by_cases t1 : isName nm = true
  case neg =>
    rw [if_pos (by simp at t1; exact .inl t1)] at hE
    rw [show isName nm = false by simpa using t1] at c1
    clear t1 kq
    go_enter Try.func56, Try.ntmps56
    go_wp2_with (first | (go_at_call 76; (with_reducible refine (c1.out _).mono ?_); rintro e w' ⟨rfl, rfl⟩) | (go_at_call 58; (with_reducible refine (c2.out _).mono ?_); rintro e w' ⟨rfl, rfl⟩) | (go_at_call 58; (with_reducible refine (c4.out _).mono ?_); rintro e w' ⟨rfl, rfl⟩) | (go_at_call 77; (with_reducible refine (c3.out _ H0.out).mono ?_); rintro e w3 ⟨rfl, hb3⟩; obtain ⟨hc3, hf3⟩ := bcell hb3; have hz3 : w.heap.size < w3.heap.size := by have := hb3.size; (try simp at this); omega))
    go_ret
    exact ⟨ret_int hE.symm, H0.out⟩
  rw [t1] at c1
  by_cases t2 : nm = kernelBytes
  case pos =>
    rw [if_pos (.inr t2)] at hE
    rw [show decide (nm = kernelBytes) = true by simp [t2]] at kq
    clear t1 t2
    go_enter Try.func56, Try.ntmps56
    go_wp2_with (first | (go_at_call 76; (with_reducible refine (c1.out _).mono ?_); rintro e w' ⟨rfl, rfl⟩) | (go_at_call 58; (with_reducible refine (c2.out _).mono ?_); rintro e w' ⟨rfl, rfl⟩) | (go_at_call 58; (with_reducible refine (c4.out _).mono ?_); rintro e w' ⟨rfl, rfl⟩) | (go_at_call 77; (with_reducible refine (c3.out _ H0.out).mono ?_); rintro e w3 ⟨rfl, hb3⟩; obtain ⟨hc3, hf3⟩ := bcell hb3; have hz3 : w.heap.size < w3.heap.size := by have := hb3.size; (try simp at this); omega))
    go_ret
    exact ⟨ret_int hE.symm, H0.out⟩
  rw [if_neg (by simp [t1, t2])] at hE
  rw [show decide (nm = kernelBytes) = false by simp [t2]] at kq
  clear t1 t2
  by_cases t3 : 0 ≤ mj ∧ mj ≤ 255
  case neg =>
    rw [if_pos (by omega)] at hE
    have c2 := Lib.hid (fun W => between_f mj 0 255 W (by omega))
    clear t3
    go_enter Try.func56, Try.ntmps56
    go_wp2_with (first | (go_at_call 76; (with_reducible refine (c1.out _).mono ?_); rintro e w' ⟨rfl, rfl⟩) | (go_at_call 58; (with_reducible refine (c2.out _).mono ?_); rintro e w' ⟨rfl, rfl⟩) | (go_at_call 58; (with_reducible refine (c4.out _).mono ?_); rintro e w' ⟨rfl, rfl⟩) | (go_at_call 77; (with_reducible refine (c3.out _ H0.out).mono ?_); rintro e w3 ⟨rfl, hb3⟩; obtain ⟨hc3, hf3⟩ := bcell hb3; have hz3 : w.heap.size < w3.heap.size := by have := hb3.size; (try simp at this); omega))
    go_ret
    exact ⟨ret_int hE.symm, H0.out⟩
  have c2 := Lib.hid (fun W => between_t mj 0 255 W t3.1 t3.2)
  by_cases t4 : 0 ≤ mn ∧ mn ≤ 255
  case neg =>
    rw [if_pos (by omega)] at hE
    have c4 := Lib.hid (fun W => between_f mn 0 255 W (by omega))
    clear t3 t4
    go_enter Try.func56, Try.ntmps56
    go_wp2_with (first | (go_at_call 76; (with_reducible refine (c1.out _).mono ?_); rintro e w' ⟨rfl, rfl⟩) | (go_at_call 58; (with_reducible refine (c2.out _).mono ?_); rintro e w' ⟨rfl, rfl⟩) | (go_at_call 58; (with_reducible refine (c4.out _).mono ?_); rintro e w' ⟨rfl, rfl⟩) | (go_at_call 77; (with_reducible refine (c3.out _ H0.out).mono ?_); rintro e w3 ⟨rfl, hb3⟩; obtain ⟨hc3, hf3⟩ := bcell hb3; have hz3 : w.heap.size < w3.heap.size := by have := hb3.size; (try simp at this); omega))
    go_ret
    exact ⟨ret_int hE.symm, H0.out⟩
  have c4 := Lib.hid (fun W => between_t mn 0 255 W t4.1 t4.2)
  rw [if_neg (by omega)] at hE
  clear t3 t4
  by_cases t4 : 256 < tx.size
  case pos =>
    rw [if_pos (by omega)] at hE
    have t4' : (256 : Int) < (tx.size : Nat) := by omega
    clear t4
    go_enter Try.func56, Try.ntmps56
    go_wp2_with (first | (go_at_call 76; (with_reducible refine (c1.out _).mono ?_); rintro e w' ⟨rfl, rfl⟩) | (go_at_call 58; (with_reducible refine (c2.out _).mono ?_); rintro e w' ⟨rfl, rfl⟩) | (go_at_call 58; (with_reducible refine (c4.out _).mono ?_); rintro e w' ⟨rfl, rfl⟩) | (go_at_call 77; (with_reducible refine (c3.out _ H0.out).mono ?_); rintro e w3 ⟨rfl, hb3⟩; obtain ⟨hc3, hf3⟩ := bcell hb3; have hz3 : w.heap.size < w3.heap.size := by have := hb3.size; (try simp at this); omega))
    go_ret
    exact ⟨ret_int hE.symm, H0.out⟩
  have t4' : decide ((256 : Int) < (tx.size : Nat)) = false := by simp; omega
  by_cases t5 : 6 < ex.length
  case pos =>
    rw [if_pos (by omega)] at hE
    have t5' : (6 : Int) < (ex.length : Nat) := by omega
    clear t5
    go_enter Try.func56, Try.ntmps56
    go_wp2_with (first | (go_at_call 76; (with_reducible refine (c1.out _).mono ?_); rintro e w' ⟨rfl, rfl⟩) | (go_at_call 58; (with_reducible refine (c2.out _).mono ?_); rintro e w' ⟨rfl, rfl⟩) | (go_at_call 58; (with_reducible refine (c4.out _).mono ?_); rintro e w' ⟨rfl, rfl⟩) | (go_at_call 77; (with_reducible refine (c3.out _ H0.out).mono ?_); rintro e w3 ⟨rfl, hb3⟩; obtain ⟨hc3, hf3⟩ := bcell hb3; have hz3 : w.heap.size < w3.heap.size := by have := hb3.size; (try simp at this); omega))
    go_ret
    exact ⟨ret_int hE.symm, H0.out⟩
  have t5' : decide ((6 : Int) < (ex.length : Nat)) = false := by simp; omega
  by_cases t6 : 6 < im.length
  case pos =>
    rw [if_pos (by omega)] at hE
    have t6' : (6 : Int) < (im.length : Nat) := by omega
    clear t6
    go_enter Try.func56, Try.ntmps56
    go_wp2_with (first | (go_at_call 76; (with_reducible refine (c1.out _).mono ?_); rintro e w' ⟨rfl, rfl⟩) | (go_at_call 58; (with_reducible refine (c2.out _).mono ?_); rintro e w' ⟨rfl, rfl⟩) | (go_at_call 58; (with_reducible refine (c4.out _).mono ?_); rintro e w' ⟨rfl, rfl⟩) | (go_at_call 77; (with_reducible refine (c3.out _ H0.out).mono ?_); rintro e w3 ⟨rfl, hb3⟩; obtain ⟨hc3, hf3⟩ := bcell hb3; have hz3 : w.heap.size < w3.heap.size := by have := hb3.size; (try simp at this); omega))
    go_ret
    exact ⟨ret_int hE.symm, H0.out⟩
  have t6' : decide ((6 : Int) < (im.length : Nat)) = false := by simp; omega
  by_cases t7 : 12 < pa.length
  case pos =>
    rw [if_pos (by omega)] at hE
    have t7' : (12 : Int) < (pa.length : Nat) := by omega
    clear t7
    go_enter Try.func56, Try.ntmps56
    go_wp2_with (first | (go_at_call 76; (with_reducible refine (c1.out _).mono ?_); rintro e w' ⟨rfl, rfl⟩) | (go_at_call 58; (with_reducible refine (c2.out _).mono ?_); rintro e w' ⟨rfl, rfl⟩) | (go_at_call 58; (with_reducible refine (c4.out _).mono ?_); rintro e w' ⟨rfl, rfl⟩) | (go_at_call 77; (with_reducible refine (c3.out _ H0.out).mono ?_); rintro e w3 ⟨rfl, hb3⟩; obtain ⟨hc3, hf3⟩ := bcell hb3; have hz3 : w.heap.size < w3.heap.size := by have := hb3.size; (try simp at this); omega))
    go_ret
    exact ⟨ret_int hE.symm, H0.out⟩
  have t7' : decide ((12 : Int) < (pa.length : Nat)) = false := by simp; omega
  rw [if_neg (by omega)] at hE
  clear t4 t5 t6 t7
  obtain ⟨r4, tm, hr4⟩ : ∃ r4 : Int, Int.tmod (tx.size : Int) 4 = r4 ∧ r4 = ((tx.size % 4 : Nat) : Int) := ⟨_, rfl, by rw [Int.tmod_eq_emod_of_nonneg (by omega)]; omega⟩
  by_cases t8 : tx.size = 0
  case pos =>
    rw [if_pos (.inl t8)] at hE
    have t8' : ((tx.size : Int) == 0) = true := by simp [t8]
    clear t8 tm hr4
    go_enter Try.func56, Try.ntmps56
    go_wp2_with (first | (go_at_call 76; (with_reducible refine (c1.out _).mono ?_); rintro e w' ⟨rfl, rfl⟩) | (go_at_call 58; (with_reducible refine (c2.out _).mono ?_); rintro e w' ⟨rfl, rfl⟩) | (go_at_call 58; (with_reducible refine (c4.out _).mono ?_); rintro e w' ⟨rfl, rfl⟩) | (go_at_call 77; (with_reducible refine (c3.out _ H0.out).mono ?_); rintro e w3 ⟨rfl, hb3⟩; obtain ⟨hc3, hf3⟩ := bcell hb3; have hz3 : w.heap.size < w3.heap.size := by have := hb3.size; (try simp at this); omega))
    go_ret
    exact ⟨ret_int hE.symm, H0.out⟩
  have t8' : ((tx.size : Int) == 0) = false := by simp [t8]
  by_cases t9 : tx.size % 4 = 0
  case neg =>
    rw [if_pos (.inr t9)] at hE
    have t9' : (0 : Int) < r4 := by omega
    clear t8 t9 hr4
    go_enter Try.func56, Try.ntmps56
    go_wp2_with (first | (go_at_call 76; (with_reducible refine (c1.out _).mono ?_); rintro e w' ⟨rfl, rfl⟩) | (go_at_call 58; (with_reducible refine (c2.out _).mono ?_); rintro e w' ⟨rfl, rfl⟩) | (go_at_call 58; (with_reducible refine (c4.out _).mono ?_); rintro e w' ⟨rfl, rfl⟩) | (go_at_call 77; (with_reducible refine (c3.out _ H0.out).mono ?_); rintro e w3 ⟨rfl, hb3⟩; obtain ⟨hc3, hf3⟩ := bcell hb3; have hz3 : w.heap.size < w3.heap.size := by have := hb3.size; (try simp at this); omega))
    go_ret
    exact ⟨ret_int hE.symm, H0.out⟩
  rw [if_neg (by omega)] at hE
  obtain rfl : r4 = 0 := by omega
  clear t8 t9 hr4
  by_cases u1 : expErr [] tx.size ex = 0
  case neg =>
    rw [if_pos u1] at hE
    generalize expErr [] tx.size ex = ee at *
    have u1' : (ee != 0) = true := by simp [u1]
    clear u1
    go_enter Try.func56, Try.ntmps56
    go_wp2_with (first | (go_at_call 76; (with_reducible refine (c1.out _).mono ?_); rintro e w' ⟨rfl, rfl⟩) | (go_at_call 58; (with_reducible refine (c2.out _).mono ?_); rintro e w' ⟨rfl, rfl⟩) | (go_at_call 58; (with_reducible refine (c4.out _).mono ?_); rintro e w' ⟨rfl, rfl⟩) | (go_at_call 77; (with_reducible refine (c3.out _ H0.out).mono ?_); rintro e w3 ⟨rfl, hb3⟩; obtain ⟨hc3, hf3⟩ := bcell hb3; have hz3 : w.heap.size < w3.heap.size := by have := hb3.size; (try simp at this); omega))
    go_ret
    exact ⟨ret_int hE.symm, H0.out.trans (hb3.mono (by omega))⟩
  rw [if_neg (by omega)] at hE
  rw [u1] at c3
  have HE := Lib.hid hE
  clear u1 hE
  go_enter Try.func56, Try.ntmps56
  go_wp2_with (first | (go_at_call 76; (with_reducible refine (c1.out _).mono ?_); rintro e w' ⟨rfl, rfl⟩) | (go_at_call 58; (with_reducible refine (c2.out _).mono ?_); rintro e w' ⟨rfl, rfl⟩) | (go_at_call 58; (with_reducible refine (c4.out _).mono ?_); rintro e w' ⟨rfl, rfl⟩) | (go_at_call 77; (with_reducible refine (c3.out _ H0.out).mono ?_); rintro e w3 ⟨rfl, hb3⟩; obtain ⟨hc3, hf3⟩ := bcell hb3; have hz3 : w.heap.size < w3.heap.size := by have := hb3.size; (try simp at this); omega))
  go_loopw [4] (fun i wr => ∃ j : Nat, j ≤ im.length ∧ i = .int .i64 j ∧ impsFrom im j = impsErr [] im ∧ Below (w.heap.size + 1) w0 wr) (fun i _ => im.length - (intOf i).toNat)
  case atStart => exact ⟨0, by omega, rfl, rfl, hb3.mono (by have := HZ.out; omega)⟩
  case round =>
    obtain ⟨j, hj, rfl, hI, hb⟩ := hrel
    have HI := Lib.hid hI
    have HB := Lib.hid hb
    clear hI
    have f3 := (hb.cell (p := ⟨w.heap.size, 3, none⟩) (by simp)).trans g3
    have f5 := (hb.cell (p := ⟨w.heap.size, 5, none⟩) (by simp)).trans g5
    have f6 := (hb.cell (p := ⟨w.heap.size, 6, none⟩) (by simp)).trans g6
    have hzr : w.heap.size < wr.heap.size := by have := hb.size; have := HZ.out; omega
    by_cases hlt : j < im.length
    · have hlt' : (j : Int) < im.length := by omega
      obtain ⟨ad, rfl, hab, h0, h1, h2, h3⟩ := imp_at HIM.out.1 (H0.out.trans (hb.mono (by omega))) j hlt
      obtain ⟨hsz1, hsz2⟩ := HIM.out.2.2 im[j] (List.getElem_mem _)
      have d1 := Lib.hid (fun W => CheckImport_any (im[j]'hlt).mod (im[j]'hlt).name (im[j]'hlt).major (im[j]'hlt).minor W hsz1 hsz2)
      obtain ⟨er, her⟩ : ∃ er, er = impErr (im[j]'hlt) := ⟨_, rfl⟩
      have her' : er = impErr ⟨(im[j]'hlt).mod, (im[j]'hlt).name, (im[j]'hlt).major, (im[j]'hlt).minor⟩ := her
      rw [← her'] at d1
      have HER := Lib.hid her
      clear hb her her'
      by_cases h5 : er = 1
      · obtain rfl := h5
        have e1 := Lib.hid ((impsFrom_form hlt HER.out.symm).symm.trans HI.out)
        have e2 := Lib.hid (show E = 1 by rw [HE.out, ← e1.out]; rfl)
        go_wp2_with (first | (go_at_call 78; (with_reducible refine (d1.out _).mono ?_); rintro e w4 ⟨rfl, hb4⟩; obtain ⟨hc4, hf4⟩ := bcell hb4; have hz4 : w.heap.size < w4.heap.size := by have := hb4.size; (try simp at this); omega))
        go_ret
        exact ⟨ret_int e2.out.symm, (H0.out.trans (HB.out.mono (by omega))).trans (hb4.mono (by omega))⟩
      · have h5' : (er == 1) = false := by simp [h5]
        have H5 := Lib.hid (show impErr (im[j]'hlt) ≠ 1 by rw [← HER.out]; exact h5)
        clear h5
        go_wp2_with (first | (go_at_call 78; (with_reducible refine (d1.out _).mono ?_); rintro e w4 ⟨rfl, hb4⟩; obtain ⟨hc4, hf4⟩ := bcell hb4; have hz4 : w.heap.size < w4.heap.size := by have := hb4.size; (try simp at this); omega))
        go_loopw [6] (fun i wi => ∃ k : Nat, k ≤ j ∧ i = .int .i64 k ∧ (∀ k' (hk : k' < im.length), k' < k → ¬ (im[k'].mod = im[j].mod ∧ im[k'].name = im[j].name)) ∧ Below (w.heap.size + 1) w0 wi) (fun i _ => j - (intOf i).toNat)
        case atStart => exact ⟨0, by omega, rfl, by omega, HB.out.trans (hb4.mono (by omega))⟩
        case round =>
          obtain ⟨k, hk, rfl, hK, hb2⟩ := hrel
          have HK := Lib.hid hK
          have HB2 := Lib.hid hb2
          clear hK
          have f5 := (hb2.cell (p := ⟨w.heap.size, 5, none⟩) (by simp)).trans g5
          obtain ⟨_, ead, _, i0, i1, _, _⟩ := imp_at HIM.out.1 (H0.out.trans (hb2.mono (by omega))) j hlt
          obtain rfl := Option.some.inj ead
          by_cases hkj : k < j
          · have hkl : k < im.length := by omega
            have hkj' : (k : Int) < j := by omega
            have hkl' : (k : Int) < im.length := by omega
            obtain ⟨_, ead, _, p0, p1, _, _⟩ := imp_at HIM.out.1 (H0.out.trans (hb2.mono (by omega))) k hkl
            obtain rfl := Option.some.inj ead
            clear hb2 ead
            by_cases q1 : im[k].mod = im[j].mod
            · by_cases q2 : im[k].name = im[j].name
              · have e1 := Lib.hid ((impsFrom_twice hlt H5.out hkl hkj ⟨q1, q2⟩).symm.trans HI.out)
                have e2 := Lib.hid (show E = 6 by rw [HE.out, ← e1.out]; rfl)
                have r1 := str_eq q1
                have r2 := str_eq q2
                clear q1 q2
                go_wp2_with fail
                go_quiet (fail)
                go_wp2_with fail
                go_ret
                exact ⟨ret_int e2.out.symm, H0.out.trans ((below_drewN HB2.out _).mono (by omega))⟩
              · have HQ := Lib.hid (fun (hq : im[k].mod = im[j].mod ∧ im[k].name = im[j].name) => q2 hq.2)
                have r1 := str_eq q1
                have r2 := str_ne q2
                clear q1 q2
                go_wp2_with fail
                go_quiet (fail)
                go_wp2_with fail
                go_roundw
                case rel => exact ⟨k + 1, by omega, by go_num, fun k' h' hlt => by rcases Nat.lt_succ_iff_lt_or_eq.1 hlt with h | rfl; exact HK.out k' h' h; exact HQ.out, below_drewN HB2.out _⟩
                case measure => (simp [intOf]; try omega)
            · have HQ := Lib.hid (fun (hq : im[k].mod = im[j].mod ∧ im[k].name = im[j].name) => q1 hq.1)
              have r1 := str_ne q1
              clear q1
              go_wp2_with fail
              go_quiet (fail)
              go_wp2_with fail
              go_roundw
              case rel => exact ⟨k + 1, by omega, by go_num, fun k' h' hlt => by rcases Nat.lt_succ_iff_lt_or_eq.1 hlt with h | rfl; exact HK.out k' h' h; exact HQ.out, below_drewN HB2.out _⟩
              case measure => (simp [intOf]; try omega)
          · obtain rfl : k = j := by omega
            clear hb2 ead
            by_cases h6 : er = 0
            · obtain rfl := h6
              have e1 := Lib.hid ((impsFrom_next hlt HER.out.symm (fun k' h' hlt => HK.out k' h' hlt)).trans HI.out)
              go_wp2_with fail
              go_roundw
              case rel => exact ⟨k + 1, by omega, by go_num, e1.out, HB2.out⟩
              case measure => (simp [intOf]; try omega)
            · have h7 : er = 3 := by
                have := impErr_cases (im[k]'hlt); have := H5.out; rw [← HER.out] at *; omega
              obtain rfl := h7
              have e1 := Lib.hid ((impsFrom_range hlt HER.out.symm (fun k' h' hlt => HK.out k' h' hlt)).symm.trans HI.out)
              have e2 := Lib.hid (show E = 3 by rw [HE.out, ← e1.out]; rfl)
              clear h6
              go_wp2_with fail
              go_ret
              exact ⟨ret_int e2.out.symm, H0.out.trans (HB2.out.mono (by omega))⟩
    · have e1 := Lib.hid ((impsFrom_end hlt).symm.trans HI.out)
      have HE2 := Lib.hid (show E = patsErr tx.size im.length 0 pa by rw [HE.out, ← e1.out]; rfl)
      clear hb
      go_wp2_with fail
      go_loopw [7, 8] (fun e i wr => ∃ (j : Nat) (en : Int), j ≤ pa.length ∧ i = .int .i64 j ∧ e = .int .i64 en ∧ 0 ≤ en ∧ en ≤ 140737488351236 ∧ patsFrom tx.size im.length pa j en = E ∧ Below (w.heap.size + 1) w0 wr) (fun _ i _ => pa.length - (intOf i).toNat)
      case atStart => exact ⟨0, 0, by omega, rfl, rfl, by omega, by omega, HE2.out.symm, HB.out⟩
      case round =>
        obtain ⟨j, en, hj, rfl, rfl, he0, he1, hE, hb⟩ := hrel
        have HE := Lib.hid hE
        have HB := Lib.hid hb
        clear hE
        have f3 := (hb.cell (p := ⟨w.heap.size, 3, none⟩) (by simp)).trans g3
        have f5 := (hb.cell (p := ⟨w.heap.size, 5, none⟩) (by simp)).trans g5
        have f6 := (hb.cell (p := ⟨w.heap.size, 6, none⟩) (by simp)).trans g6
        have hzr : w.heap.size < wr.heap.size := by have := hb.size; have := HZ.out; omega
        by_cases hlt : j < pa.length
        · have hlt' : (j : Int) < pa.length := by omega
          obtain ⟨ad, rfl, hab, h0, h1, h2, h3⟩ := pat_at HPA.out.1 (H0.out.trans (hb.mono (by omega))) j hlt
          clear hb
          obtain ⟨p, hp⟩ : ∃ p, p = pa[j] := ⟨_, rfl⟩
          have he := Lib.hid (fun h => (patsFrom_err (z := tx.size) (ni := im.length) (e := en) hlt h).symm.trans HE.out)
          have hx := Lib.hid (fun h => (patsFrom_next (z := tx.size) (ni := im.length) (e := en) hlt h).trans HE.out)
          rw [← hp] at h0 h1 h2 h3 he hx
          have HP := Lib.hid hp
          clear hp
          obtain ⟨kd, at_, sy, ad_⟩ := p
          simp only at h0 h1 h2 h3
          obtain ⟨k, hk⟩ : ∃ k, k = widthOf kd := ⟨_, rfl⟩
          have c1 := Lib.hid (fun W => WidthOf_any kd W)
          rw [← hk] at c1
          have hkr := width_rng_ kd
          rw [← hk] at hkr
          have HK := Lib.hid hk
          clear hk
          have qk : wrap64 ((im.length : Int) - 1) = im.length - 1 := IntWalk.wrap64_in _ (by omega)
          have qz : wrap64 ((tx.size : Int) - k) = tx.size - k := IntWalk.wrap64_in _ (by omega)
          rcases hkr with h5 | ⟨h5, h6⟩
          · obtain rfl := h5
            have e1 := Lib.hid (patErr_kind (z := tx.size) (ni := im.length) (e := en) (p := ⟨kd, at_, sy, ad_⟩) HK.out.symm)
            have e2 := Lib.hid ((e1.out.symm).trans (he.out (by rw [e1.out]; omega)))
            go_wp2_with (first | (go_at_call 23; (with_reducible refine (c1.out _).mono ?_); rintro e w' ⟨rfl, rfl⟩))
            go_ret
            exact ⟨ret_int e2.out, H0.out.trans ((HB.out.mono (by omega)).trans ((Below.refl _ _).alloc (by omega) _))⟩
          · have hk0 : (k == 0) = false := by simp; omega
            have hkn := Lib.hid (show widthOf kd ≠ 0 by rw [← HK.out]; omega)
            have hrng := Lib.hid (fun h1 => (patErr_range (z := tx.size) (ni := im.length) (e := en) (p := ⟨kd, at_, sy, ad_⟩) hkn.out h1))
            have hst := Lib.hid (fun h1 h2 => (patErr_state (z := tx.size) (ni := im.length) (e := en) (p := ⟨kd, at_, sy, ad_⟩) hkn.out h1 h2))
            have hok := Lib.hid (fun h1 h2 => (patErr_ok (z := tx.size) (ni := im.length) (e := en) (p := ⟨kd, at_, sy, ad_⟩) hkn.out h1 h2))
            simp only [← HK.out] at hrng hst hok
            by_cases b1 : -1 ≤ sy ∧ sy ≤ im.length - 1
            · have c3 := Lib.hid (fun W => between_t sy (-1) (im.length - 1) W b1.1 b1.2)
              by_cases b2 : 0 ≤ ad_ ∧ ad_ ≤ 65535
              · have c4 := Lib.hid (fun W => between_t ad_ 0 65535 W b2.1 b2.2)
                by_cases b3 : 0 ≤ at_ ∧ at_ ≤ tx.size - k
                · have c5 := Lib.hid (fun W => between_t at_ 0 (tx.size - k) W b3.1 b3.2)
                  by_cases b5 : at_ < en
                  · have e1 := Lib.hid (hst.out (by omega) b5)
                    have e2 := Lib.hid ((e1.out.symm).trans (he.out (by rw [e1.out]; omega)))
                    clear b1 b2 b3
                    go_wp2_with (first | (go_at_call 23; (with_reducible refine (c1.out _).mono ?_); rintro e w' ⟨rfl, rfl⟩) | (go_at_call 58; (with_reducible refine (c3.out _).mono ?_); rintro e w' ⟨rfl, rfl⟩) | (go_at_call 58; (with_reducible refine (c4.out _).mono ?_); rintro e w' ⟨rfl, rfl⟩) | (go_at_call 58; (with_reducible refine (c5.out _).mono ?_); rintro e w' ⟨rfl, rfl⟩))
                    go_ret
                    exact ⟨ret_int e2.out, H0.out.trans ((HB.out.mono (by omega)).trans ((Below.refl _ _).alloc (by omega) _))⟩
                  · have b5' : decide (at_ < en) = false := by simp; omega
                    have e1 := Lib.hid (hok.out (by omega) b5)
                    have e2 := Lib.hid (hx.out e1.out)
                    have q3 := Lib.hid (show wrap64 (at_ + k) = at_ + k from IntWalk.wrap64_in _ (by omega))
                    have r1 := Lib.hid (show 0 ≤ at_ + k ∧ at_ + k ≤ 140737488351236 by omega)
                    clear b1 b2 b3 b5
                    go_wp2_with (first | (go_at_call 23; (with_reducible refine (c1.out _).mono ?_); rintro e w' ⟨rfl, rfl⟩) | (go_at_call 58; (with_reducible refine (c3.out _).mono ?_); rintro e w' ⟨rfl, rfl⟩) | (go_at_call 58; (with_reducible refine (c4.out _).mono ?_); rintro e w' ⟨rfl, rfl⟩) | (go_at_call 58; (with_reducible refine (c5.out _).mono ?_); rintro e w' ⟨rfl, rfl⟩))
                    go_roundw
                    case rel => exact ⟨j + 1, at_ + k, by omega, by go_num, by rw [q3.out], r1.out.1, r1.out.2, by rw [HK.out]; exact e2.out, HB.out.trans ((Below.refl _ _).alloc (by omega) _)⟩
                    case measure => (simp [intOf]; try omega)
                · have c5 := Lib.hid (fun W => between_f at_ 0 (tx.size - k) W (by omega))
                  have e1 := Lib.hid (hrng.out (by omega))
                  have e2 := Lib.hid ((e1.out.symm).trans (he.out (by rw [e1.out]; omega)))
                  clear b1 b2 b3
                  go_wp2_with (first | (go_at_call 23; (with_reducible refine (c1.out _).mono ?_); rintro e w' ⟨rfl, rfl⟩) | (go_at_call 58; (with_reducible refine (c3.out _).mono ?_); rintro e w' ⟨rfl, rfl⟩) | (go_at_call 58; (with_reducible refine (c4.out _).mono ?_); rintro e w' ⟨rfl, rfl⟩) | (go_at_call 58; (with_reducible refine (c5.out _).mono ?_); rintro e w' ⟨rfl, rfl⟩))
                  go_ret
                  exact ⟨ret_int e2.out, H0.out.trans ((HB.out.mono (by omega)).trans ((Below.refl _ _).alloc (by omega) _))⟩
              · have c4 := Lib.hid (fun W => between_f ad_ 0 65535 W (by omega))
                have e1 := Lib.hid (hrng.out (by omega))
                have e2 := Lib.hid ((e1.out.symm).trans (he.out (by rw [e1.out]; omega)))
                clear b1 b2
                go_wp2_with (first | (go_at_call 23; (with_reducible refine (c1.out _).mono ?_); rintro e w' ⟨rfl, rfl⟩) | (go_at_call 58; (with_reducible refine (c3.out _).mono ?_); rintro e w' ⟨rfl, rfl⟩) | (go_at_call 58; (with_reducible refine (c4.out _).mono ?_); rintro e w' ⟨rfl, rfl⟩))
                go_ret
                exact ⟨ret_int e2.out, H0.out.trans ((HB.out.mono (by omega)).trans ((Below.refl _ _).alloc (by omega) _))⟩
            · have c3 := Lib.hid (fun W => between_f sy (-1) (im.length - 1) W (by omega))
              have e1 := Lib.hid (hrng.out (by omega))
              have e2 := Lib.hid ((e1.out.symm).trans (he.out (by rw [e1.out]; omega)))
              clear b1
              go_wp2_with (first | (go_at_call 23; (with_reducible refine (c1.out _).mono ?_); rintro e w' ⟨rfl, rfl⟩) | (go_at_call 58; (with_reducible refine (c3.out _).mono ?_); rintro e w' ⟨rfl, rfl⟩))
              go_ret
              exact ⟨ret_int e2.out, H0.out.trans ((HB.out.mono (by omega)).trans ((Below.refl _ _).alloc (by omega) _))⟩
        · have e1 := Lib.hid ((patsFrom_end (z := tx.size) (ni := im.length) (e := en) hlt).symm.trans HE.out)
          clear hb
          go_wp2_with fail
          go_ret
          exact ⟨ret_int e1.out, H0.out.trans (HB.out.mono (by omega))⟩

end Go.Proofs.Ytgkpbndeljnjcaa
