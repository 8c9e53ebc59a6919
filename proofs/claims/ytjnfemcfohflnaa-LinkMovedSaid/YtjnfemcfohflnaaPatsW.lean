import Derived.Test.YtjnfemcfohflnaaImpW
/- Patches of a module (chapter B): module.patches. -/
namespace Go.Proofs.Ytjnfemcfohflnaa
open Go.RowKit

theorem patErr_kind {z ni e : Int} {p : Pat} (h : widthOf p.kind = 0) : patErr z ni e p = 7 := by unfold patErr; rw [if_pos h]
theorem patErr_range {z ni e : Int} {p : Pat} (h : widthOf p.kind ≠ 0) (h1 : p.sym < -1 ∨ ni ≤ p.sym ∨ p.add < 0 ∨ 65535 < p.add ∨ p.at_ < 0 ∨ z - widthOf p.kind < p.at_) : patErr z ni e p = 3 := by
  unfold patErr; rw [if_neg h, if_pos h1]
theorem patErr_state {z ni e : Int} {p : Pat} (h : widthOf p.kind ≠ 0) (h1 : ¬ (p.sym < -1 ∨ ni ≤ p.sym ∨ p.add < 0 ∨ 65535 < p.add ∨ p.at_ < 0 ∨ z - widthOf p.kind < p.at_)) (h2 : p.at_ < e) : patErr z ni e p = 4 := by
  unfold patErr; rw [if_neg h, if_neg h1, if_pos h2]
theorem patErr_ok {z ni e : Int} {p : Pat} (h : widthOf p.kind ≠ 0) (h1 : ¬ (p.sym < -1 ∨ ni ≤ p.sym ∨ p.add < 0 ∨ 65535 < p.add ∨ p.at_ < 0 ∨ z - widthOf p.kind < p.at_)) (h2 : ¬ p.at_ < e) : patErr z ni e p = 0 := by
  unfold patErr; rw [if_neg h, if_neg h1, if_neg h2]
theorem width_rng_ (k : Int) : widthOf k = 0 ∨ (2 ≤ widthOf k ∧ widthOf k ≤ 4) := by
  rcases widthOf_cases k with h | h | h | h | h | h <;> omega

set_option maxHeartbeats 4000000 in
set_option maxRecDepth 100000 in
theorem patches_any (nm tx : ByteArray) (mj mn : Int) (eA iA pA : Option Addr) (el eC il iC pC : Nat) (l : List Pat) (w : World) (h : PatsOk w pA l) (ht : tx.size ≤ big) (hi : il ≤ big) :
    Calls Try.prog 60 #[.agg #[.string nm, .int .i64 mj, .int .i64 mn, .string tx, .slice eA el eC, .slice iA il iC, .slice pA l.length pC]] w fun e w' =>
      e = .returned (.int .i64 (patsErr tx.size il 0 l)) ∧ Below w.heap.size w w' := by
  obtain ⟨hr, hl⟩ := h
  unfold big at hl ht hi
  have HR := Lib.hid hr
  clear hr
  obtain ⟨w0, hw0⟩ : ∃ w0, w0 = w.alloc (.cells #[.string nm, .int .i64 mj, .int .i64 mn, .string tx, .slice eA el eC, .slice iA il iC, .slice pA l.length pC] 34) := ⟨_, rfl⟩
  have H0 := Lib.hid (show Below w.heap.size w w0 from hw0 ▸ (Below.refl _ _).alloc (Nat.le_refl _) _)
  have k3 := Lib.hid (show w0.cell? ⟨w.heap.size, 3, none⟩ = some (.string tx) by rw [hw0, World.cell?_alloc_new]; rfl)
  have k5 := Lib.hid (show w0.cell? ⟨w.heap.size, 5, none⟩ = some (.slice iA il iC) by rw [hw0, World.cell?_alloc_new]; rfl)
  have k6 := Lib.hid (show w0.cell? ⟨w.heap.size, 6, none⟩ = some (.slice pA l.length pC) by rw [hw0, World.cell?_alloc_new]; rfl)
  have hz0 := Lib.hid (show w0.heap.size = w.heap.size + 1 by rw [hw0]; simp)
  have HW := Lib.hid hw0
  clear hw0
  go_enter Try.func60, Try.ntmps60
  go_wp2_with fail
  rw [← HW.out]
  clear HW
  go_loopw [3, 10] (fun e i wr => ∃ (j : Nat) (en : Int), j ≤ l.length ∧ i = .int .i64 j ∧ e = .int .i64 en ∧ 0 ≤ en ∧ en ≤ 140737488351236 ∧ patsFrom tx.size il l j en = patsErr tx.size il 0 l ∧ Below (w.heap.size + 1) w0 wr) (fun _ i _ => l.length - (intOf i).toNat)
  case atStart => exact ⟨0, 0, by omega, rfl, rfl, by omega, by omega, rfl, Below.refl _ _⟩
  case round =>
    obtain ⟨j, en, hj, rfl, rfl, he0, he1, hE, hb⟩ := hrel
    have HE := Lib.hid hE
    have HB := Lib.hid hb
    clear hE
    have g3 := (hb.cell (p := ⟨w.heap.size, 3, none⟩) (by simp)).trans k3.out
    have g5 := (hb.cell (p := ⟨w.heap.size, 5, none⟩) (by simp)).trans k5.out
    have hzr : w.heap.size < wr.heap.size := by have := hb.size; have := hz0.out; omega
    by_cases hlt : j < l.length
    · have hlt' : (j : Int) < l.length := by omega
      obtain ⟨ad, rfl, hab, h0, h1, h2, h3⟩ := pat_at HR.out (H0.out.trans (hb.mono (by omega))) j hlt
      clear hb
      obtain ⟨p, hp⟩ : ∃ p, p = l[j] := ⟨_, rfl⟩
      have he := Lib.hid (fun h => (patsFrom_err (z := tx.size) (ni := il) (e := en) hlt h).symm.trans HE.out)
      have hx := Lib.hid (fun h => (patsFrom_next (z := tx.size) (ni := il) (e := en) hlt h).trans HE.out)
      rw [← hp] at h0 h1 h2 h3 he hx
      have HP := Lib.hid hp
      clear hp
      obtain ⟨kd, at_, sy, ad_⟩ := p
      simp only at h0 h1 h2 h3
      obtain ⟨k, hk⟩ : ∃ k, k = widthOf kd := ⟨_, rfl⟩
      have c1 := Lib.hid (fun W => MWidth_any kd W)
      rw [← hk] at c1
      have hkr := width_rng_ kd
      rw [← hk] at hkr
      have HK := Lib.hid hk
      clear hk
      have qk : wrap64 ((il : Int) - 1) = il - 1 := IntWalk.wrap64_in _ (by omega)
      have qz : wrap64 ((tx.size : Int) - k) = tx.size - k := IntWalk.wrap64_in _ (by omega)
      rcases hkr with h5 | ⟨h5, h6⟩
      · obtain rfl := h5
        have e1 := Lib.hid (patErr_kind (z := tx.size) (ni := il) (e := en) (p := ⟨kd, at_, sy, ad_⟩) HK.out.symm)
        have e2 := Lib.hid ((e1.out.symm).trans (he.out (by rw [e1.out]; omega)))
        go_wp2_with (first | (go_at_call 48; (with_reducible refine (c1.out _).mono ?_); rintro e w2 ⟨rfl, hb2⟩; obtain ⟨hc2, hf2⟩ := bcell hb2; have hz2 : w.heap.size < w2.heap.size := by have := hb2.size; (try simp at this); omega))
        go_ret
        exact ⟨ret_int e2.out, H0.out.trans ((HB.out.mono (by omega)).trans (((Below.refl _ _).alloc (by omega) _).trans (hb2.mono (by simp; omega))))⟩
      · have hk0 : (k == 0) = false := by simp; omega
        have hkn := Lib.hid (show widthOf kd ≠ 0 by rw [← HK.out]; omega)
        have hk64 : wrap64 (at_ + k) = at_ + k ∨ at_ < 0 ∨ (tx.size : Int) - k < at_ := by
          by_cases a0 : at_ < 0
          · exact .inr (.inl a0)
          · by_cases a1 : (tx.size : Int) - k < at_
            · exact .inr (.inr a1)
            · exact .inl (IntWalk.wrap64_in _ (by omega))
        have hrng := Lib.hid (fun h1 => (patErr_range (z := tx.size) (ni := il) (e := en) (p := ⟨kd, at_, sy, ad_⟩) hkn.out h1))
        have hst := Lib.hid (fun h1 h2 => (patErr_state (z := tx.size) (ni := il) (e := en) (p := ⟨kd, at_, sy, ad_⟩) hkn.out h1 h2))
        have hok := Lib.hid (fun h1 h2 => (patErr_ok (z := tx.size) (ni := il) (e := en) (p := ⟨kd, at_, sy, ad_⟩) hkn.out h1 h2))
        simp only [← HK.out] at hrng hst hok
        by_cases b1 : -1 ≤ sy ∧ sy ≤ il - 1
        · have c3 := Lib.hid (fun W => within_t sy (-1) (il - 1) W b1.1 b1.2)
          by_cases b2 : 0 ≤ ad_ ∧ ad_ ≤ 65535
          · have c4 := Lib.hid (fun W => within_t ad_ 0 65535 W b2.1 b2.2)
            by_cases b3 : at_ < 0
            · have e1 := Lib.hid (hrng.out (by omega))
              have e2 := Lib.hid ((e1.out.symm).trans (he.out (by rw [e1.out]; omega)))
              clear b1 b2
              go_wp2_with (first | (go_at_call 48; (with_reducible refine (c1.out _).mono ?_); rintro e w2 ⟨rfl, hb2⟩; obtain ⟨hc2, hf2⟩ := bcell hb2; have hz2 : w.heap.size < w2.heap.size := by have := hb2.size; (try simp at this); omega) | (go_at_call 44; (with_reducible refine (c3.out _).mono ?_); rintro e w' ⟨rfl, rfl⟩) | (go_at_call 44; (with_reducible refine (c4.out _).mono ?_); rintro e w' ⟨rfl, rfl⟩))
              go_ret
              exact ⟨ret_int e2.out, H0.out.trans ((HB.out.mono (by omega)).trans (((Below.refl _ _).alloc (by omega) _).trans (hb2.mono (by simp; omega))))⟩
            · have b3' : decide (at_ < 0) = false := by simp; omega
              by_cases b4 : (tx.size : Int) - k < at_
              · have e1 := Lib.hid (hrng.out (by omega))
                have e2 := Lib.hid ((e1.out.symm).trans (he.out (by rw [e1.out]; omega)))
                clear b1 b2 b3
                go_wp2_with (first | (go_at_call 48; (with_reducible refine (c1.out _).mono ?_); rintro e w2 ⟨rfl, hb2⟩; obtain ⟨hc2, hf2⟩ := bcell hb2; have hz2 : w.heap.size < w2.heap.size := by have := hb2.size; (try simp at this); omega) | (go_at_call 44; (with_reducible refine (c3.out _).mono ?_); rintro e w' ⟨rfl, rfl⟩) | (go_at_call 44; (with_reducible refine (c4.out _).mono ?_); rintro e w' ⟨rfl, rfl⟩))
                go_ret
                exact ⟨ret_int e2.out, H0.out.trans ((HB.out.mono (by omega)).trans (((Below.refl _ _).alloc (by omega) _).trans (hb2.mono (by simp; omega))))⟩
              · have b4' : decide ((tx.size : Int) - k < at_) = false := by simp; omega
                by_cases b5 : at_ < en
                · have e1 := Lib.hid (hst.out (by omega) b5)
                  have e2 := Lib.hid ((e1.out.symm).trans (he.out (by rw [e1.out]; omega)))
                  clear b1 b2 b3 b4
                  go_wp2_with (first | (go_at_call 48; (with_reducible refine (c1.out _).mono ?_); rintro e w2 ⟨rfl, hb2⟩; obtain ⟨hc2, hf2⟩ := bcell hb2; have hz2 : w.heap.size < w2.heap.size := by have := hb2.size; (try simp at this); omega) | (go_at_call 44; (with_reducible refine (c3.out _).mono ?_); rintro e w' ⟨rfl, rfl⟩) | (go_at_call 44; (with_reducible refine (c4.out _).mono ?_); rintro e w' ⟨rfl, rfl⟩))
                  go_ret
                  exact ⟨ret_int e2.out, H0.out.trans ((HB.out.mono (by omega)).trans (((Below.refl _ _).alloc (by omega) _).trans (hb2.mono (by simp; omega))))⟩
                · have b5' : decide (at_ < en) = false := by simp; omega
                  have e1 := Lib.hid (hok.out (by omega) b5)
                  have e2 := Lib.hid (hx.out e1.out)
                  have q3 := Lib.hid (show wrap64 (at_ + k) = at_ + k from IntWalk.wrap64_in _ (by omega))
                  have r1 := Lib.hid (show 0 ≤ at_ + k ∧ at_ + k ≤ 140737488351236 by omega)
                  clear b1 b2 b3 b4 b5
                  go_wp2_with (first | (go_at_call 48; (with_reducible refine (c1.out _).mono ?_); rintro e w2 ⟨rfl, hb2⟩; obtain ⟨hc2, hf2⟩ := bcell hb2; have hz2 : w.heap.size < w2.heap.size := by have := hb2.size; (try simp at this); omega) | (go_at_call 44; (with_reducible refine (c3.out _).mono ?_); rintro e w' ⟨rfl, rfl⟩) | (go_at_call 44; (with_reducible refine (c4.out _).mono ?_); rintro e w' ⟨rfl, rfl⟩))
                  go_roundw
                  case rel => exact ⟨j + 1, at_ + k, by omega, by go_num, by rw [q3.out], r1.out.1, r1.out.2, by rw [HK.out]; exact e2.out, HB.out.trans (((Below.refl _ _).alloc (by omega) _).trans (hb2.mono (by simp; omega)))⟩
                  case measure => (simp [intOf]; try omega)
          · have c4 := Lib.hid (fun W => within_f ad_ 0 65535 W (by omega))
            have e1 := Lib.hid (hrng.out (by omega))
            have e2 := Lib.hid ((e1.out.symm).trans (he.out (by rw [e1.out]; omega)))
            clear b1 b2
            go_wp2_with (first | (go_at_call 48; (with_reducible refine (c1.out _).mono ?_); rintro e w2 ⟨rfl, hb2⟩; obtain ⟨hc2, hf2⟩ := bcell hb2; have hz2 : w.heap.size < w2.heap.size := by have := hb2.size; (try simp at this); omega) | (go_at_call 44; (with_reducible refine (c3.out _).mono ?_); rintro e w' ⟨rfl, rfl⟩) | (go_at_call 44; (with_reducible refine (c4.out _).mono ?_); rintro e w' ⟨rfl, rfl⟩))
            go_ret
            exact ⟨ret_int e2.out, H0.out.trans ((HB.out.mono (by omega)).trans (((Below.refl _ _).alloc (by omega) _).trans (hb2.mono (by simp; omega))))⟩
        · have c3 := Lib.hid (fun W => within_f sy (-1) (il - 1) W (by omega))
          have e1 := Lib.hid (hrng.out (by omega))
          have e2 := Lib.hid ((e1.out.symm).trans (he.out (by rw [e1.out]; omega)))
          clear b1
          go_wp2_with (first | (go_at_call 48; (with_reducible refine (c1.out _).mono ?_); rintro e w2 ⟨rfl, hb2⟩; obtain ⟨hc2, hf2⟩ := bcell hb2; have hz2 : w.heap.size < w2.heap.size := by have := hb2.size; (try simp at this); omega) | (go_at_call 44; (with_reducible refine (c3.out _).mono ?_); rintro e w' ⟨rfl, rfl⟩))
          go_ret
          exact ⟨ret_int e2.out, H0.out.trans ((HB.out.mono (by omega)).trans (((Below.refl _ _).alloc (by omega) _).trans (hb2.mono (by simp; omega))))⟩
    · have e1 := Lib.hid ((patsFrom_end (z := tx.size) (ni := il) (e := en) hlt).symm.trans HE.out)
      clear hb
      go_wp2_with fail
      go_ret
      exact ⟨ret_int e1.out, H0.out.trans (HB.out.mono (by omega))⟩

end Go.Proofs.Ytjnfemcfohflnaa
