import Derived.Test.YtdpacbdejfjkcaaFreeW
import Derived.Test.YtdpacbdejfjkcaaResBegun
/- The document's FitOf; sameRuns; regionBegun returns true. -/
namespace Go.Proofs.Ytdpacbdejfjkcaa
open Go.RowKit

theorem fitIn_cons {many : Int} {r : Run} {l : List Run} : fitIn many (r :: l) = if many ≤ r.many then r.first else fitIn many l := by
  unfold fitIn
  by_cases h1 : many ≤ r.many <;> simp [h1]
theorem fitIn_drop {many : Int} {l : List Run} {j : Nat} (h : j < l.length) : fitIn many (l.drop j) = if many ≤ l[j].many then l[j].first else fitIn many (l.drop (j + 1)) := by
  rw [List.drop_eq_getElem_cons h, fitIn_cons]

set_option maxHeartbeats 2000000 in
set_option maxRecDepth 100000 in
theorem FitOf_any (A : Option Addr) (c : Nat) (l : List Plc) (many : Int) (w : World) (h : PlsOk w A l) (hr : regErr l = 0) :
    Calls Try.prog 18 #[.slice A l.length c, .int .i64 many] w fun e w' => e = .returned (.int .i64 (fitIn many (runsOf l))) ∧ Below w.heap.size w w' := by
  have HS := Lib.hid (show (runsOf l).length ≤ 9 by have := runsFrom_length l 0; have := (reg_row hr).1; unfold runsOf; omega)
  have c1 := Lib.hid (FreeOf_any A c l w h hr)
  obtain ⟨R, hR⟩ : ∃ R, R = runsOf l := ⟨_, rfl⟩
  rw [← hR] at c1 HS ⊢
  clear h hr hR
  go_enter Try.func18, Try.ntmps18
  go_wp2_with (go_at_call 17; refine (c1.out).mono ?_; rintro e w2 ⟨⟨A', c', rfl, hrow⟩, hb2⟩; have HR := Lib.hid hrow; clear hrow)
  go_loopw [6] (fun i wr => ∃ (j : Nat), j ≤ R.length ∧ i = .int .i64 j ∧ fitIn many (R.drop j) = fitIn many R ∧ Below w2.heap.size w2 wr) (fun i _ => R.length - (intOf i).toNat)
  case atStart => exact ⟨0, by omega, rfl, rfl, Below.refl _ _⟩
  case round =>
    obtain ⟨j, hj, rfl, hE, hb⟩ := hrel
    have HE := Lib.hid hE
    have HB := Lib.hid hb
    have hl := HS.out
    clear hE
    by_cases hlt : j < R.length
    · have hlt' : (j : Int) < R.length := by omega
      obtain ⟨ad, rfl, hab, k0, k1⟩ := run_at HR.out hb j hlt
      have hd := fitIn_drop (many := many) hlt
      obtain ⟨f, hf⟩ : ∃ f, f = R[j].first := ⟨_, rfl⟩
      obtain ⟨m, hm⟩ : ∃ m, m = R[j].many := ⟨_, rfl⟩
      rw [← hf] at k0 hd
      rw [← hm] at k1 hd
      clear hf hm hb
      by_cases t0 : many ≤ m
      · rw [if_pos t0] at hd
        have e1 := Lib.hid (hd.symm.trans HE.out)
        clear hd
        go_wp2_with fail
        go_ret
        exact ⟨ret_int e1.out, hb2.trans (HB.out.mono hb2.size)⟩
      · rw [if_neg t0] at hd
        have t0' : decide (many ≤ m) = false := by simp; omega
        have e1 := Lib.hid (hd.symm.trans HE.out)
        clear hd t0
        go_wp2_with fail
        go_roundw
        case rel => exact ⟨j + 1, by omega, by go_num, e1.out, HB.out⟩
        case measure => (simp [intOf]; try omega)
    · have e1 := Lib.hid (show fitIn many R = -1 by rw [← HE.out, List.drop_eq_nil_of_le (by omega)]; rfl)
      go_wp2_with fail
      go_ret
      exact ⟨ret_int e1.out.symm, hb2.trans (HB.out.mono hb2.size)⟩

set_option maxHeartbeats 2000000 in
set_option maxRecDepth 100000 in
theorem sameRuns_any (A A' : Option Addr) (c c' : Nat) (l : List Run) (w : World) (h : RunRow w A l) (h' : RunRow w A' l) (hl : l.length ≤ 100) :
    Calls Try.prog 20 #[.slice A l.length c, .slice A' l.length c'] w fun e w' => e = .returned (.bool true) ∧ Below w.heap.size w w' := by
  have H := Lib.hid h
  have H' := Lib.hid h'
  clear h h'
  go_enter Try.func20, Try.ntmps20
  go_wp2_with fail
  go_loopw [5] (fun i wr => ∃ (j : Nat), j ≤ l.length ∧ i = .int .i64 j ∧ Below w.heap.size w wr) (fun i _ => l.length - (intOf i).toNat)
  case atStart => exact ⟨0, by omega, rfl, Below.refl _ _⟩
  case round =>
    obtain ⟨j, hj, rfl, hb⟩ := hrel
    have HB := Lib.hid hb
    by_cases hlt : j < l.length
    · have hlt' : (j : Int) < l.length := by omega
      obtain ⟨ad, rfl, hab, k0, k1⟩ := run_at H.out hb j hlt
      obtain ⟨ad', rfl, hab', k0', k1'⟩ := run_at H'.out hb j hlt
      obtain ⟨f, hf⟩ : ∃ f, f = l[j].first := ⟨_, rfl⟩
      obtain ⟨m, hm⟩ : ∃ m, m = l[j].many := ⟨_, rfl⟩
      rw [← hf] at k0 k0'
      rw [← hm] at k1 k1'
      clear hf hm hb
      go_wp2_with fail
      go_quiet (fail)
      go_wp2_with fail
      go_roundw
      case rel => exact ⟨j + 1, by omega, by go_num, below_drewN HB.out _⟩
      case measure => (simp [intOf]; try omega)
    · go_wp2_with fail
      go_ret
      exact ⟨rfl, HB.out⟩

theorem begun_size (A B C a b c) : modErr (libM A B C a b c) = 0 ∧ manyOf (libM A B C a b c) = 1 := ⟨by kernel_rfl, by kernel_rfl⟩
theorem begun_reg (a1 a2 a3 a4 a5 a6 b1 b2 b3 b4 b5 b6) : regErr (pairL a1 a2 a3 b1 b2 b3 a4 a5 a6 b4 b5 b6) = 0 := by kernel_rfl
theorem begun_free (a1 a2 a3 a4 a5 a6 b1 b2 b3 b4 b5 b6) : freeOf (pairL a1 a2 a3 b1 b2 b3 a4 a5 a6 b4 b5 b6) = [⟨0, 1⟩, ⟨2, 2⟩, ⟨5, 11⟩] := by kernel_rfl
theorem begun_first (a1 a2 a3 a4 a5 a6 b1 b2 b3 b4 b5 b6) : firstOf (pairL a1 a2 a3 b1 b2 b3 a4 a5 a6 b4 b5 b6) 2 = (2, 0) := by kernel_rfl

set_option maxHeartbeats 4000000 in
set_option maxRecDepth 100000 in
theorem regionBegun_any (w : World) : Calls Try.prog 19 #[] w fun e w' => e = .returned (.bool true) ∧ Below w.heap.size w w' := by
  go_enter Try.func19, Try.ntmps19
  go_wp2_with fail
  refine (lib_any _).mono ?_; rintro e w1 ⟨⟨A1, B1, C1, a1, b1, c1, rfl, hm1⟩, hb1⟩
  have f1 := Lib.hid (Size_any _ w1 hm1)
  rw [(begun_size A1 B1 C1 a1 b1 c1).1, if_neg (by omega), (begun_size A1 B1 C1 a1 b1 c1).2] at f1
  go_wp2_with fail
  refine (f1.out).mono ?_; rintro e w2 ⟨rfl, hb2⟩
  clear f1
  go_wp2_with fail
  refine (pair_any _).mono ?_; rintro e w3 ⟨⟨A3, c3, a1, a2, a3, a4, a5, a6, b1, b2, b3, b4, b5, b6, rfl, hl3⟩, hb3⟩
  have f2 := Lib.hid (Free_any A3 c3 (pairL a1 a2 a3 b1 b2 b3 a4 a5 a6 b4 b5 b6) w3 hl3)
  rw [begun_reg, begun_free] at f2
  go_wp2_with fail
  refine (f2.out).mono ?_; rintro e w4 ⟨⟨A4, c4, rfl, hr4⟩, hb4⟩
  clear f2
  go_wp2_with fail
  refine (pair_any _).mono ?_; rintro e w5 ⟨⟨A5, c5, d1, d2, d3, d4, d5, d6, e1, e2, e3, e4, e5, e6, rfl, hl5⟩, hb5⟩
  have f3 := Lib.hid (First_any A5 c5 (pairL d1 d2 d3 e1 e2 e3 d4 d5 d6 e4 e5 e6) 2 w5 hl5)
  rw [begun_first] at f3
  go_wp2_with fail
  refine (f3.out).mono ?_; rintro e w6 ⟨rfl, hb6⟩
  have hs1 := hb1.size
  have hs2 := hb2.size
  have hs3 := hb3.size
  have hs4 := hb4.size
  have hs5 := hb5.size
  have hs6 := hb6.size
  clear f3
  have hbA : Below w4.heap.size w4 w6 := hb5.trans (hb6.mono hs5)
  have hbB := fun o => (Below.refl w6.heap.size w6).alloc (Nat.le_refl _) o
  have f5 := Lib.hid (sameRuns_any A4 (some ⟨w6.heap.size, 0, none⟩) c4 3 [⟨0, 1⟩, ⟨2, 2⟩, ⟨5, 11⟩] (w6.alloc (.cells #[.int .i64 0, .int .i64 1, .int .i64 2, .int .i64 2, .int .i64 5, .int .i64 11] 44)) (hr4.below (hbA.trans ((hbB _).mono (by omega)))) (row_block (enc := Run.cells) (k := 2) (fun _ => rfl) (heap_alloc_new w6 _) rfl) (by simp))
  go_wp2_with (go_at_call 20; refine (f5.out).mono ?_; rintro e w7 ⟨rfl, hb7⟩)
  go_ret
  refine ⟨by simp, ?_⟩
  have b6 : Below w.heap.size w w6 := hb1.trans ((hb2.mono hs1).trans ((hb3.mono (by omega)).trans ((hb4.mono (by omega)).trans (hbA.mono (by omega)))))
  exact b6.trans (((hbB _).mono (by have := b6.size; omega)).trans (hb7.mono (by have := b6.size; simp; omega)))

end Go.Proofs.Ytdpacbdejfjkcaa
