import Derived.Test.YtpmjgkngkaleeaaFlBytesW
import Derived.Test.YtpmjgkngkaleeaaWordW
/- The document's mix and both (chapter K): two bytes, bit by bit. -/
namespace Go.Proofs.Ytpmjgkngkaleeaa
open Go.RowKit

def mixT (a b p j : Nat) : Nat := (if p / 2 ^ j % 2 = 1 then a / 2 ^ j % 2 else b / 2 ^ j % 2) * 2 ^ j
def mixS (a b p : Nat) : Nat → Nat
  | 0 => 0
  | j + 1 => mixS a b p j + mixT a b p j
theorem mixS_eq (a b p : Nat) (ha : a < 256) (hb : b < 256) (hp : p < 256) : mixS a b p 8 = mixB a b p := by
  rw [← mixN_eq a b p ha hb hp]
  simp only [mixS, mixT, Nat.reducePow, Nat.zero_add, mixN]
theorem mixT_le (a b p j : Nat) : mixT a b p j ≤ 2 ^ j := by
  unfold mixT
  have : (if p / 2 ^ j % 2 = 1 then a / 2 ^ j % 2 else b / 2 ^ j % 2) ≤ 1 := by split <;> omega
  calc _ ≤ 1 * 2 ^ j := Nat.mul_le_mul_right _ this
    _ = 2 ^ j := Nat.one_mul _
theorem mixS_lt (a b p : Nat) : ∀ j, mixS a b p j < 2 ^ j
  | 0 => by simp [mixS]
  | j + 1 => by
    have h1 := mixS_lt a b p j
    have h2 := mixT_le a b p j
    show mixS a b p j + mixT a b p j < _
    rw [Nat.pow_succ]; omega

theorem quo_rule (x q : Nat) (hx : x < 256) : ∃ xq xr : Nat, wrap64 ((x : Int) / (q : Int)) = (xq : Int) ∧ ((xq : Int)).tmod 2 = (xr : Int) ∧ xr = x / q % 2 := by
  refine ⟨x / q, x / q % 2, ?_, ?_, rfl⟩
  · have h : x / q ≤ x := Nat.div_le_self _ _
    rw [← Int.natCast_ediv]
    generalize x / q = z at h
    exact IntWalk.wrap64_in _ (by omega)
  · generalize x / q = z
    rw [Int.tmod_eq_emod_of_nonneg (by omega)]; omega
theorem acc_rule (S t : Nat) (hS : S ≤ 256) (ht : t ≤ 256) : wrap64 ((S : Int) + (t : Int)) = ((S + t : Nat) : Int) := by
  rw [IntWalk.wrap64_in _ (by omega)]; omega
theorem mul_rule (r q : Nat) (h : r * q ≤ 256) : wrap64 ((r : Int) * (q : Int)) = ((r * q : Nat) : Int) := by
  rw [← Int.natCast_mul]
  generalize r * q = z at h
  exact IntWalk.wrap64_in _ (by omega)
theorem pow_small (j : Nat) (h : j < 8) : 0 < 2 ^ j ∧ 2 ^ j ≤ 128 := by
  match j, h with
  | 0, _ | 1, _ | 2, _ | 3, _ | 4, _ | 5, _ | 6, _ | 7, _ => decide

set_option maxHeartbeats 2000000 in
set_option maxRecDepth 100000 in
theorem mix_any (a b p : Nat) (w : World) (ha : a < 256) (hb : b < 256) (hp : p < 256) :
    Calls Try.prog 39 #[.int .u8 a, .int .u8 b, .int .u8 p] w fun e w' => e = .returned (.int .u8 (mixB a b p : Nat)) ∧ w' = w := by
  have HM := Lib.hid (mixS_eq a b p ha hb hp)
  have HA := Lib.hid (And.intro ha (And.intro hb hp))
  have c1 : IntKind.i64.wrap (a : Int) = a := IntWalk.i64_in _ (by omega)
  have c2 : IntKind.i64.wrap (b : Int) = b := IntWalk.i64_in _ (by omega)
  have c3 : IntKind.i64.wrap (p : Int) = p := IntWalk.i64_in _ (by omega)
  clear ha hb hp
  go_enter Try.func39, Try.ntmps39
  go_wp2_with fail
  go_loopw [7, 8] (fun o i wr => ∃ j : Nat, j ≤ 8 ∧ i = .int .i64 j ∧ o = .int .i64 (mixS a b p j : Nat) ∧ w = wr) (fun _ i _ => 8 - (intOf i).toNat)
  case atStart => exact ⟨0, by omega, rfl, rfl, rfl⟩
  case round =>
    obtain ⟨j, hj, rfl, rfl, rfl⟩ := hrel
    have hS := mixS_lt a b p j
    by_cases hlt : j < 8
    · have hlt' : (j : Int) < 8 := by omega
      have hS1 : mixS a b p (j + 1) = mixS a b p j + mixT a b p j := rfl
      have hT := mixT_le a b p j
      unfold mixT at hS1 hT
      obtain ⟨hq0, hq8⟩ := pow_small j hlt
      have cP := Lib.hid (fun W => power_any j W (by omega) (by omega))
      have hqi : (2 : Int) ^ ((j : Int).toNat) = ((2 ^ j : Nat) : Int) := by rw [Int.toNat_natCast]; simp
      rw [hqi] at cP
      clear hqi
      obtain ⟨S, hSS⟩ : ∃ S, S = mixS a b p j := ⟨_, rfl⟩
      rw [← hSS] at hS hS1 ⊢
      clear hSS
      generalize 2 ^ j = q at *
      obtain ⟨ha, hb, hp⟩ := HA.out
      obtain ⟨aq, ar, d1, m1, har⟩ := quo_rule a q ha
      obtain ⟨bq, br, d2, m2, hbr⟩ := quo_rule b q hb
      obtain ⟨pq, pr, d3, m3, hpr⟩ := quo_rule p q hp
      rw [← har, ← hbr, ← hpr] at hS1 hT
      have hq' : ¬ ((q : Int) = 0) := by omega
      have hne : ¬ (q = 0) := by omega
      clear ha hb hp har hbr hpr hq0
      by_cases k : pr = 1
      · rw [if_pos k] at hS1 hT
        subst k
        obtain ⟨t, ht⟩ : ∃ t, t = ar * q := ⟨_, rfl⟩
        rw [← ht] at hS1 hT
        have w1 := mul_rule ar q (by rw [← ht]; exact Nat.le_trans hT (Nat.le_trans hq8 (by decide)))
        rw [← ht] at w1
        have w2 := acc_rule S t (Nat.le_of_lt (Nat.lt_of_lt_of_le hS (Nat.le_trans hq8 (by decide)))) (Nat.le_trans hT (Nat.le_trans hq8 (by decide)))
        have HS1 := Lib.hid hS1
        clear hS hS1 hT hq8 ht
        go_wp2_with (go_at_call 50; refine (cP.out _).mono ?_; rintro e w' ⟨rfl, rfl⟩)
        go_roundw
        case rel => exact ⟨j + 1, hlt, by go_num, by rw [HS1.out, w2], by first | rfl | trivial⟩
        case measure => (simp [intOf]; try omega)
      · rw [if_neg k] at hS1 hT
        have k' : ((pr : Int) == 1) = false := by simp; omega
        obtain ⟨t, ht⟩ : ∃ t, t = br * q := ⟨_, rfl⟩
        rw [← ht] at hS1 hT
        have w1 := mul_rule br q (by rw [← ht]; exact Nat.le_trans hT (Nat.le_trans hq8 (by decide)))
        rw [← ht] at w1
        have w2 := acc_rule S t (Nat.le_of_lt (Nat.lt_of_lt_of_le hS (Nat.le_trans hq8 (by decide)))) (Nat.le_trans hT (Nat.le_trans hq8 (by decide)))
        have HS1 := Lib.hid hS1
        clear hS hS1 hT hq8 ht
        go_wp2_with (go_at_call 50; refine (cP.out _).mono ?_; rintro e w' ⟨rfl, rfl⟩)
        go_roundw
        case rel => exact ⟨j + 1, hlt, by go_num, by rw [HS1.out, w2], by first | rfl | trivial⟩
        case measure => (simp [intOf]; try omega)
    · obtain rfl : j = 8 := by omega
      rw [HM.out]
      have h8 : mixB a b p < 256 := mixB_lt _ _ _ HA.out.1 HA.out.2.1
      obtain ⟨R, hR⟩ : ∃ R, R = mixB a b p := ⟨_, rfl⟩
      rw [← hR] at h8 ⊢
      have cw : IntKind.u8.wrap (R : Int) = R := by rw [IntKind.wrap_u8']; omega
      have HR := Lib.hid hR
      clear hS hR
      go_wp2_with fail
      go_ret
      exact ⟨by rw [← HR.out]; rfl, rfl⟩

set_option maxHeartbeats 2000000 in
set_option maxRecDepth 100000 in
theorem both_any (a v : Nat) (w : World) (ha : a < 256) (hv : v < 256) :
    Calls Try.prog 49 #[.int .u8 a, .int .u8 v] w fun e w' => e = .returned (.int .u8 (a &&& v : Nat)) ∧ w' = w := by
  have cM := Lib.hid (fun W => mix_any v 0 a W hv (by omega) ha)
  rw [both_eq a v ha hv] at cM
  obtain ⟨R, hR⟩ : ∃ R, R = a &&& v := ⟨_, rfl⟩
  rw [← hR] at cM ⊢
  have h00 : ((0 : Nat) : Int) = 0 := rfl
  rw [h00] at cM
  clear hR h00
  go_enter Try.func49, Try.ntmps49
  go_wp2_with (go_at_call 39; refine (cM.out _).mono ?_; rintro e w' ⟨rfl, rfl⟩)
  go_ret
  exact ⟨rfl, rfl⟩

end Go.Proofs.Ytpmjgkngkaleeaa
