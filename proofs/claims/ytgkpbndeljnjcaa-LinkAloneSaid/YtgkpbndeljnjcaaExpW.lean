import Derived.Test.YtgkpbndeljnjcaaNameW
/- Exports (chapter B): module.Exports, and the document's CheckExports. -/
namespace Go.Proofs.Ytgkpbndeljnjcaa
open Go.RowKit

set_option maxHeartbeats 2000000 in
theorem CheckExports_any (A : Option Addr) (c : Nat) (l : List Exp) (most : Int) (w : World) (h : ExpsOk w A l) (hm : 0 ≤ most) (hm2 : most ≤ big) :
    Calls Try.prog 77 #[.slice A l.length c, .int .i64 most] w fun e w' => e = .returned (.int .i64 (expErr [] most l)) ∧ Below w.heap.size w w' := by
  obtain ⟨hr, hl, hs⟩ := h
  unfold big at hl hm2
  have HR := Lib.hid hr
  have HS := Lib.hid hs
  clear hr hs
  have c3 := Lib.hid (fun W n => between_any n 0 (most - 1) W)
  have q1 : wrap64 (most - 1) = most - 1 := IntWalk.wrap64_in _ (by omega)
  go_enter Try.func77, Try.ntmps77
  go_wp2_with fail
  go_loopw [5] (fun i wr => ∃ j : Nat, j ≤ l.length ∧ i = .int .i64 j ∧ expFrom l most j = expErr [] most l ∧ Below w.heap.size w wr) (fun i _ => l.length - (intOf i).toNat)
  case atStart => exact ⟨0, by omega, rfl, rfl, Below.refl _ _⟩
  case round =>
    obtain ⟨j, hj, rfl, hE, hb⟩ := hrel
    have HE := Lib.hid hE
    have HB := Lib.hid hb
    clear hE
    by_cases hlt : j < l.length
    · have hlt' : (j : Int) < l.length := by omega
      obtain ⟨ad, rfl, hab, h0, h1⟩ := exp_at HR.out hb j hlt
      clear hb
      have hsz := HS.out l[j] (List.getElem_mem _)
      have c1 := Lib.hid (fun W => IsName_any l[j].name W hsz)
      cases hnm : isName l[j].name
      · rw [hnm] at c1
        have e1 := Lib.hid ((expFrom_form (most := most) hlt hnm).symm.trans HE.out)
        clear hnm
        go_wp2_with (first | (go_at_call 76; (with_reducible refine (c1.out _).mono ?_); rintro e w' ⟨rfl, rfl⟩))
        go_ret
        exact ⟨ret_int e1.out, HB.out⟩
      · rw [hnm] at c1
        have HM := Lib.hid hnm
        clear hnm
        go_wp2_with (first | (go_at_call 76; (with_reducible refine (c1.out _).mono ?_); rintro e w' ⟨rfl, rfl⟩))
        go_loopw [6] (fun i wi => ∃ k : Nat, k ≤ j ∧ i = .int .i64 k ∧ (∀ k' (hk : k' < l.length), k' < k → l[k'].name ≠ l[j].name) ∧ Below w.heap.size w wi) (fun i _ => j - (intOf i).toNat)
        case atStart => exact ⟨0, by omega, rfl, by omega, HB.out⟩
        case round =>
          obtain ⟨k, hk, rfl, hK, hb2⟩ := hrel
          have HK := Lib.hid hK
          have HB2 := Lib.hid hb2
          clear hK
          obtain ⟨_, ead, _, g0, g1⟩ := exp_at HR.out hb2 j hlt
          obtain rfl := Option.some.inj ead
          by_cases hkj : k < j
          · have hkl : k < l.length := by omega
            have hkj' : (k : Int) < j := by omega
            obtain ⟨_, ead, _, f0, _⟩ := exp_at HR.out hb2 k hkl
            obtain rfl := Option.some.inj ead
            clear hb2 ead
            by_cases heq : l[k].name = l[j].name
            · have e1 := Lib.hid ((expFrom_twice (most := most) hlt HM.out hkl hkj heq).symm.trans HE.out)
              go_wp2_with fail
              go_quiet (fail)
              go_wp2_with fail
              go_ret
              exact ⟨ret_int e1.out, below_drewN HB2.out _⟩
            · have HQ := Lib.hid heq
              have hd := str_ne heq
              clear heq
              go_wp2_with fail
              go_quiet (fail)
              go_wp2_with fail
              go_roundw
              case rel => exact ⟨k + 1, by omega, by go_num, fun k' h' hlt => by rcases Nat.lt_succ_iff_lt_or_eq.1 hlt with h | rfl; exact HK.out k' h' h; exact HQ.out, below_drewN HB2.out _⟩
              case measure => (simp [intOf]; try omega)
          · obtain rfl : k = j := by omega
            clear hb2 ead
            by_cases hr : 0 ≤ l[k].at_ ∧ l[k].at_ < most
            · have e1 := Lib.hid ((expFrom_next hlt HM.out (fun k' h' hlt => HK.out k' h' hlt) hr).trans HE.out)
              have c4 := Lib.hid (fun W => between_t l[k].at_ 0 (most - 1) W hr.1 (by omega))
              clear hr
              go_wp2_with (first | (go_at_call 58; (with_reducible refine (c4.out _).mono ?_); rintro e w' ⟨rfl, rfl⟩))
              go_roundw
              case rel => exact ⟨k + 1, by omega, by go_num, e1.out, HB2.out⟩
              case measure => (simp [intOf]; try omega)
            · have e1 := Lib.hid ((expFrom_range hlt HM.out (fun k' h' hlt => HK.out k' h' hlt) (by omega)).symm.trans HE.out)
              have c4 := Lib.hid (fun W => between_f l[k].at_ 0 (most - 1) W (by omega))
              clear hr
              go_wp2_with (first | (go_at_call 58; (with_reducible refine (c4.out _).mono ?_); rintro e w' ⟨rfl, rfl⟩))
              go_ret
              exact ⟨ret_int e1.out, HB2.out⟩
    · have e1 := Lib.hid ((expFrom_end (most := most) hlt).symm.trans HE.out)
      go_wp2_with fail
      go_ret
      exact ⟨ret_int e1.out, HB.out⟩

end Go.Proofs.Ytgkpbndeljnjcaa
