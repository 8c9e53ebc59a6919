import Derived.Test.YtdpacbdejfjkcaaDecW
/- The reader's times (chapter B): whatever is done, as often as a byte says, as long as there is enough. -/
namespace Go.Proofs.Ytdpacbdejfjkcaa
open Go.RowKit

theorem reps_none {α : Type} (f : Rest → α × Rest) (n : Nat) : reps f n none = ([], none) := by cases n <;> rfl
theorem reps_some {α : Type} (f : Rest → α × Rest) (n : Nat) (s : List UInt8) : reps f (n + 1) (some s) = ((f (some s)).1 :: (reps f n (f (some s)).2).1, (reps f n (f (some s)).2).2) := rfl

set_option maxHeartbeats 2000000 in
set_option maxRecDepth 100000 in
theorem times_any {α : Type} (f : Rest → α × Rest) (B g : Nat) (lb : Array Value) (I : List α → Rest → World → Prop) (st : Rest) (w : World)
    (eg : ∀ args w, (callFunc g args).run Try.prog w = .ok (.enter g args) w)
    (hRd : ∀ xs st W, I xs st W → Rd B st W) (hl : (left st).length ≤ big)
    (hnum : ∀ W', Only B w W' → Rd B (numb 1 st).2 W' → I [] (numb 1 st).2 W')
    (hdo : ∀ xs s W, xs.length ≤ 255 → I xs (some s) W → Calls Try.prog g lb W fun e w' => (∃ u, e = .returned u) ∧ I (xs ++ [(f (some s)).1]) (f (some s)).2 w')
    (h : Rd B st w) :
    Calls Try.prog 63 #[.pointer (some ⟨B, 0, none⟩), .func (.func g) #[] lb] w fun e w' => (∃ u, e = .returned u) ∧ I (reps f (numb 1 st).1.toNat (numb 1 st).2).1 (reps f (numb 1 st).1.toNat (numb 1 st).2).2 w' := by
  have c1 := Lib.hid (number_any B st 1 w h hl (by omega) (by omega))
  change Hid (Calls _ _ #[_, .int .i64 1] w _) at c1
  have r1 := numb_range 1 st (by omega)
  have r2 := numb_one st
  obtain ⟨c, hc⟩ : ∃ c : Nat, (numb 1 st).1 = c := ⟨(numb 1 st).1.toNat, by omega⟩
  rw [hc] at c1 r1 r2
  have hc2 : (numb 1 st).1.toNat = c := by omega
  rw [hc2]
  obtain ⟨T, hT⟩ : ∃ T, T = reps f c (numb 1 st).2 := ⟨_, rfl⟩
  rw [← hT]
  have HT := Lib.hid hT
  have HD := Lib.hid hdo
  have HN := Lib.hid hnum
  have HRD := Lib.hid hRd
  clear hc hc2 hT hdo hnum hRd r1 h
  go_enter Try.func63, Try.ntmps63
  go_wp2_with (go_at_call 61; refine (c1.out).mono ?_; rintro e w2 ⟨rfl, h2, ho2⟩; have I2 := Lib.hid (HN.out w2 ho2 h2); clear h2 ho2)
  go_loopw [4] (fun i wr => ∃ (n : Nat) (xs : List α) (st' : Rest), i = .int .i64 n ∧ n + xs.length ≤ 255 ∧ I xs st' wr ∧ xs ++ (reps f n st').1 = T.1 ∧ (reps f n st').2 = T.2) (fun i _ => (intOf i).toNat)
  case atStart => exact ⟨c, [], _, rfl, by simp; omega, I2.out, by rw [HT.out]; rfl, by rw [HT.out]⟩
  case round =>
    obtain ⟨n, xs, st', rfl, hn, hI, e1, e2⟩ := hrel
    obtain ⟨c0, c1', f0, f1⟩ := (HRD.out _ _ _ hI).cells
    have HI := Lib.hid hI
    clear hI
    by_cases hn0 : n = 0
    · subst hn0
      have E1 := Lib.hid (show xs = T.1 by rw [← e1]; simp [reps])
      have E2 := Lib.hid (show st' = T.2 from e2)
      clear e1 e2 c0 c1' f0 f1
      go_wp2_with fail
      go_end0
      exact ⟨⟨_, rfl⟩, by rw [← E1.out, ← E2.out]; exact HI.out⟩
    · obtain ⟨k, hk⟩ : ∃ k, n = k + 1 := ⟨n - 1, by omega⟩
      have hn1 : 0 < n := by omega
      have hn2 : (0 : Int) < n := by omega
      have q1 : IntKind.i64.wrap ((n : Int) - 1) = k := by rw [IntWalk.i64_in _ (by omega)]; omega
      have hkl : k + (xs.length + 1) ≤ 255 := by omega
      have hxl : xs.length ≤ 255 := by omega
      have hkn : k < n := by omega
      rw [hk] at e1 e2
      cases st' with
      | none =>
        have E1 := Lib.hid (show xs = T.1 by rw [← e1, reps_none]; simp)
        have E2 := Lib.hid (show none = T.2 by rw [← e2, reps_none])
        simp only [Option.isNone_none] at c1'
        clear e1 e2 c0 hk hn0
        go_wp2_with fail
        go_end0
        exact ⟨⟨_, rfl⟩, by rw [← E1.out, ← E2.out]; exact HI.out⟩
      | some s =>
        simp only [Option.isNone_some] at c1'
        have cD := Lib.hid (HD.out xs s _ hxl HI.out)
        rw [reps_some] at e1 e2
        have E1 := Lib.hid (show (xs ++ [(f (some s)).1]) ++ (reps f k (f (some s)).2).1 = T.1 by rw [← e1]; simp)
        have E2 := Lib.hid e2
        have HKN := Lib.hid hkn
        have HKL := Lib.hid hkl
        clear e1 e2 c0 hk hn0 hkn hkl hn
        go_wp2_with fail
        refine (cD.out).mono ?_
        rintro e w3 ⟨⟨u, rfl⟩, h3⟩
        have I3 := Lib.hid h3
        clear h3 cD HI HD HN HRD I2
        go_wp2_with fail
        go_roundw
        case rel => exact ⟨k, xs ++ [(f (some s)).1], (f (some s)).2, rfl, by rw [List.length_append]; exact HKL.out, I3.out, E1.out, E2.out⟩
        case measure => (have := HKN.out; simp [intOf]; try omega)

end Go.Proofs.Ytdpacbdejfjkcaa
