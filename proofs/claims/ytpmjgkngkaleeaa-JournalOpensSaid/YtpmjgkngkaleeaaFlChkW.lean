import Derived.Test.YtpmjgkngkaleeaaFlashMem
import Derived.Test.YtpmjgkngkaleeaaResPure
import Derived.Deep.CutBlock
import Derived.Deep.CutRange
/- What is wrong with a flash, with a deed (chapter K): flash.Check, flash.deed, and the document's CheckFlash, CheckDeed, CheckDeeds, SameTexts, SameFlash. -/
namespace Go.Proofs.Ytpmjgkngkaleeaa
open Go.RowKit

set_option maxHeartbeats 2000000 in
set_option maxRecDepth 100000 in
theorem IdxStr_any (A : Option Addr) (c : Nat) (l : List ByteArray) (g : Nat) (lb : Array Value) (q : ByteArray → Bool) (w : World) (eg : ∀ args w, (callFunc g args).run Try.prog w = .ok (.enter g args) w) (h : Row strCells 1 w A l) (hl : l.length ≤ big)
    (hq : ∀ x ∈ l, ∀ W, Below w.heap.size w W → Calls Try.prog g (#[.string x] ++ lb) W fun e w' => e = .returned (.bool (q x)) ∧ Below W.heap.size W w') :
    Calls Try.prog 51 #[.slice A l.length c, .func (.func g) #[] lb] w fun e w' => e = .returned (.int .i64 (idxOf q l)) ∧ Below w.heap.size w w' := by
  unfold big at hl
  have HP := Lib.hid h
  have HQ := Lib.hid hq
  clear h hq
  go_enter Try.func51, Try.ntmps51
  go_wp2_with fail
  go_loopw [8] (fun i wr => ∃ j : Nat, j ≤ l.length ∧ i = .int .i64 j ∧ (∀ k (hk : k < l.length), k < j → q l[k] = false) ∧ Below w.heap.size w wr) (fun i _ => l.length - (intOf i).toNat)
  case atStart => exact ⟨0, by omega, rfl, by omega, Below.refl _ _⟩
  case round =>
    obtain ⟨j, hj, rfl, hN, hb⟩ := hrel
    have HN := Lib.hid hN
    have HB := Lib.hid hb
    clear hN
    by_cases hlt : j < l.length
    · have hlt' : (j : Int) < l.length := by omega
      obtain ⟨ad, rfl, hab, h0⟩ := text_at HP.out hb j hlt
      have hwz := hb.size
      have c2 := Lib.hid (show Calls Try.prog g (#[.string (l[j]'hlt)] ++ lb) wr fun e w' => e = .returned (.bool (q (l[j]'hlt))) ∧ Below wr.heap.size wr w' from HQ.out (l[j]'hlt) (List.getElem_mem _) wr HB.out)
      obtain ⟨bq, hbq⟩ : ∃ bq, bq = q (l[j]'hlt) := ⟨_, rfl⟩
      rw [← hbq] at c2
      have HBQ := Lib.hid hbq
      clear hbq hb
      cases bq
      · go_wp2_with fail
        refine (c2.out).mono ?_
        rintro e w3 ⟨rfl, hb3⟩
        go_wp2_with fail
        go_roundw
        case rel => exact ⟨j + 1, by omega, by go_num, fun k hk hkj => by rcases Nat.lt_succ_iff_lt_or_eq.1 hkj with h | rfl; exact HN.out k hk h; exact HBQ.out.symm, HB.out.trans (hb3.mono (by omega))⟩
        case measure => (simp [intOf]; try omega)
      · have e1 := Lib.hid (idxOf_some hlt HN.out HBQ.out.symm)
        go_wp2_with fail
        refine (c2.out).mono ?_
        rintro e w3 ⟨rfl, hb3⟩
        go_wp2_with fail
        go_ret
        exact ⟨ret_int e1.out.symm, HB.out.trans (hb3.mono (by omega))⟩
    · have e1 := Lib.hid (idxOf_none (q := q) (l := l) (fun k hk => HN.out k hk (by omega)))
      go_wp2_with fail
      go_ret
      exact ⟨ret_int e1.out.symm, HB.out⟩

def badBlock (s : ByteArray) : Bool := ((s.size : Int) != 128)
theorem ChkBlock_any (s : ByteArray) (w : World) : Calls Try.prog 41 #[.string s] w fun e w' => e = .returned (.bool (badBlock s)) ∧ w = w' := by
  go_enter Try.func41, Try.ntmps41
  go_wp2_with fail
  all_goals (go_ret; exact ⟨rfl, rfl⟩)

theorem idx_any {α : Type} (q : α → Bool) (l : List α) : (0 ≤ idxOf q l) ↔ ∃ x ∈ l, q x = true := by
  rcases idxOf_cases q l with ⟨h1, h2⟩ | ⟨j, hj, h1, h2, _⟩
  · rw [h1]
    constructor
    · intro h; omega
    · rintro ⟨x, hx, hq⟩; rw [h2 x hx] at hq; cases hq
  · rw [h1]
    exact ⟨fun _ => ⟨_, List.getElem_mem hj, h2⟩, fun _ => by omega⟩
theorem bad_iff (l : List ByteArray) : (0 ≤ idxOf badBlock l) ↔ ¬ ∀ s ∈ l, s.size = 128 := by
  rw [idx_any]
  constructor
  · rintro ⟨x, hx, hq⟩ h
    have := h x hx
    simp [badBlock, this] at hq
  · intro h
    refine Classical.byContradiction fun hn => h fun s hs => ?_
    refine Classical.byContradiction fun h8 => hn ⟨s, hs, ?_⟩
    simp [badBlock]; omega

set_option maxHeartbeats 2000000 in
set_option maxRecDepth 100000 in
theorem Check_any (f : Fl) (w : World) (h : f.ok w) : Calls Try.prog 21 #[f.v] w fun e w' => e = .returned (.int .i64 (flErr f.bl)) ∧ Below w.heap.size w w' := by
  obtain ⟨w0, hw0⟩ : ∃ w0, w0 = w.alloc (.cells #[.slice f.a f.bl.length f.c] 24) := ⟨_, rfl⟩
  obtain ⟨f0, hz0, hb0⟩ := box1 hw0
  have hw0' := hw0.symm
  have HB0 := Lib.hid hb0
  have HB := Lib.hid (bad_iff f.bl)
  have c1 := Lib.hid (IdxStr_any f.a f.c f.bl 41 #[] badBlock w0 (fun _ _ => by kernel_rfl) (h.below hb0).row.row h.row.len (fun x _ W _ => (ChkBlock_any x W).mono fun e w' ⟨he, hw⟩ => ⟨he, hw ▸ Below.refl _ _⟩))
  have hl := h.row.len
  unfold big at hl
  obtain ⟨N, hN⟩ : ∃ N, N = idxOf badBlock f.bl := ⟨_, rfl⟩
  rw [← hN] at c1 HB
  obtain ⟨E, hE⟩ : ∃ E, E = flErr f.bl := ⟨_, rfl⟩
  rw [← hE]
  have HE := Lib.hid hE
  clear hw0 hb0 h hN hE
  by_cases t0 : 1 ≤ f.bl.length ∧ f.bl.length ≤ 32
  · by_cases t1 : 0 ≤ N
    · have HE1 := Lib.hid (show E = 1 by rw [HE.out]; unfold flErr; rw [if_pos t0, if_neg (HB.out.1 t1)])
      clear HE HB
      obtain ⟨t2, t3⟩ := t0
      go_enter Try.func21, Try.ntmps21
      go_wp2_with (first | (go_at_call 40; go_in) | (go_at_call 51; refine (c1.out).mono ?_; rintro e w1 ⟨rfl, hb1⟩))
      go_ret
      exact ⟨ret_int HE1.out.symm, HB0.out.trans (hb1.mono (by omega))⟩
    · have HE1 := Lib.hid (show E = 0 by rw [HE.out]; unfold flErr; rw [if_pos t0, if_pos (Classical.byContradiction fun hx => t1 (HB.out.2 hx))])
      clear HE HB
      obtain ⟨t2, t3⟩ := t0
      go_enter Try.func21, Try.ntmps21
      go_wp2_with (first | (go_at_call 40; go_in) | (go_at_call 51; refine (c1.out).mono ?_; rintro e w1 ⟨rfl, hb1⟩))
      go_ret
      exact ⟨ret_int HE1.out.symm, HB0.out.trans (hb1.mono (by omega))⟩
  · have HE1 := Lib.hid (show E = 3 by rw [HE.out]; unfold flErr; rw [if_neg t0])
    clear HE HB c1
    go_enter Try.func21, Try.ntmps21
    go_wp2_with fail
    all_goals (go_ret; exact ⟨ret_int HE1.out.symm, HB0.out⟩)

set_option maxHeartbeats 2000000 in
set_option maxRecDepth 100000 in
theorem deed_any (n : Nat) (A : Option Addr) (c : Nat) (K P V : Int) (w : World) (h : n ≤ 32) : Calls Try.prog 29 #[.agg #[.slice A n c], .agg #[.int .i64 K, .int .i64 P, .int .i64 V]] w fun e w' => e = .returned (.int .i64 (dedErr n ⟨K, P, V⟩)) ∧ Below w.heap.size w w' := by
  obtain ⟨w1, hw1⟩ : ∃ w1, w1 = w.alloc (.cells #[.slice A n c] 24) := ⟨_, rfl⟩
  obtain ⟨f0, hz1, hb1⟩ := box1 hw1
  obtain ⟨w2, hw2⟩ : ∃ w2, w2 = w1.alloc (.cells #[.int .i64 K, .int .i64 P, .int .i64 V] 32) := ⟨_, rfl⟩
  obtain ⟨d0, d1, d2, hz2, hb2⟩ := box3 hw2
  rw [hz1] at d0 d1 d2 hz2 hb2
  have k0 := (hb2.cell (p := ⟨w.heap.size, 0, none⟩) (by simp)).trans f0
  have HB := Lib.hid (hb1.trans (hb2.mono (by omega)))
  have hw1' := hw1.symm
  have hw2' := hw2.symm
  have q1 : wrap64 ((n : Int) * 128) = (n : Int) * 128 := IntWalk.wrap64_in _ (by omega)
  obtain ⟨E, hE⟩ : ∃ E, E = dedErr n ⟨K, P, V⟩ := ⟨_, rfl⟩
  rw [← hE]
  have HE := Lib.hid (show E = if K = 1 then (if 0 ≤ P ∧ P < (n : Int) * 128 ∧ 0 ≤ V ∧ V ≤ 255 then 0 else 3) else if K = 2 then (if 0 ≤ P ∧ P < (n : Int) ∧ V = 0 then 0 else 3) else 7 from hE)
  clear hE hw1 hw2 hb1 hb2 f0 hz2
  go_enter Try.func29, Try.ntmps29
  go_wp2_with fail
  all_goals (go_ret; exact ⟨ret_int (by rw [HE.out]; simp at *; (repeat' split) <;> first | rfl | omega), HB.out⟩)

set_option maxHeartbeats 2000000 in
set_option maxRecDepth 100000 in
theorem CheckDeed_any (n : Nat) (A : Option Addr) (c : Nat) (K P V : Int) (w : World) (h : n ≤ 32) : Calls Try.prog 37 #[.agg #[.slice A n c], .agg #[.int .i64 K, .int .i64 P, .int .i64 V]] w fun e w' => e = .returned (.int .i64 (dedErr n ⟨K, P, V⟩)) ∧ Below w.heap.size w w' := by
  obtain ⟨w1, hw1⟩ : ∃ w1, w1 = w.alloc (.cells #[.slice A n c] 24) := ⟨_, rfl⟩
  obtain ⟨f0, hz1, hb1⟩ := box1 hw1
  obtain ⟨w2, hw2⟩ : ∃ w2, w2 = w1.alloc (.cells #[.int .i64 K, .int .i64 P, .int .i64 V] 32) := ⟨_, rfl⟩
  obtain ⟨d0, d1, d2, hz2, hb2⟩ := box3 hw2
  rw [hz1] at d0 d1 d2 hz2 hb2
  have k0 := (hb2.cell (p := ⟨w.heap.size, 0, none⟩) (by simp)).trans f0
  have HB := Lib.hid (hb1.trans (hb2.mono (by omega)))
  have hw1' := hw1.symm
  have hw2' := hw2.symm
  have q1 : wrap64 (128 * (n : Int) - 1) = 128 * (n : Int) - 1 := IntWalk.wrap64_in _ (by omega)
  have q2 : wrap64 (128 * (n : Int)) = 128 * (n : Int) := IntWalk.wrap64_in _ (by omega)
  have q3 : wrap64 ((n : Int) - 1) = (n : Int) - 1 := IntWalk.wrap64_in _ (by omega)
  obtain ⟨E, hE⟩ : ∃ E, E = dedErr n ⟨K, P, V⟩ := ⟨_, rfl⟩
  rw [← hE]
  have HE := Lib.hid (show E = if K = 1 then (if 0 ≤ P ∧ P < (n : Int) * 128 ∧ 0 ≤ V ∧ V ≤ 255 then 0 else 3) else if K = 2 then (if 0 ≤ P ∧ P < (n : Int) ∧ V = 0 then 0 else 3) else 7 from hE)
  clear hE hw1 hw2 hb1 hb2 f0 hz2
  go_enter Try.func37, Try.ntmps37
  go_wp2_with (go_at_call 36; refine (between_any _ _ _ _).mono ?_; rintro e w' ⟨rfl, rfl⟩)
  all_goals (go_ret; exact ⟨ret_int (by rw [HE.out]; simp at *; (repeat' split) <;> first | rfl | omega), HB.out⟩)

set_option maxHeartbeats 2000000 in
set_option maxRecDepth 100000 in
theorem CheckFlash_any (f : Fl) (w : World) (h : f.ok w) : Calls Try.prog 15 #[f.v] w fun e w' => e = .returned (.int .i64 (flErr f.bl)) ∧ Below w.heap.size w w' := by
  obtain ⟨w0, hw0⟩ : ∃ w0, w0 = w.alloc (.cells #[.slice f.a f.bl.length f.c] 24) := ⟨_, rfl⟩
  obtain ⟨f0, hz0, hb0⟩ := box1 hw0
  have hw0' := hw0.symm
  have HB0 := Lib.hid hb0
  have HROW := Lib.hid h.row.row
  have HEACH := Lib.hid h.row.each
  have hl := h.row.len
  unfold big at hl
  obtain ⟨E, hE⟩ : ∃ E, E = flErr f.bl := ⟨_, rfl⟩
  rw [← hE]
  have HE := Lib.hid hE
  clear hw0 hb0 h hE hz0
  by_cases t0 : 1 ≤ f.bl.length ∧ f.bl.length ≤ 32
  · have t1 : (decide ((1 : Int) ≤ f.bl.length) && decide ((f.bl.length : Int) ≤ 32)) = true := by simp; omega
    have HT := Lib.hid t0
    clear t0
    go_enter Try.func15, Try.ntmps15
    go_wp2_with (go_at_call 36; refine (between_any _ _ _ _).mono ?_; rintro e w' ⟨rfl, rfl⟩)
    go_loopw [3] (fun i wr => ∃ j : Nat, j ≤ f.bl.length ∧ i = .int .i64 j ∧ (∀ k (hk : k < f.bl.length), k < j → f.bl[k].size = 128) ∧ wr = w0) (fun i _ => f.bl.length - (intOf i).toNat)
    case atStart => exact ⟨0, by omega, rfl, by omega, rfl⟩
    case round =>
      obtain ⟨j, hj, rfl, hN, rfl⟩ := hrel
      have HN := Lib.hid hN
      clear hN
      by_cases hlt : j < f.bl.length
      · have hlt' : (j : Int) < f.bl.length := by omega
        obtain ⟨ad, hA, hab, h0⟩ := text_at HROW.out HB0.out j hlt
        have hsz := HEACH.out _ (List.getElem_mem hlt)
        obtain ⟨s, hs⟩ : ∃ s, s = f.bl[j]'hlt := ⟨_, rfl⟩
        rw [← hs] at h0 hsz
        unfold big at hsz
        have HS := Lib.hid hs
        clear hs
        by_cases h8 : s.size = 128
        · have h8' : ((s.size : Int) != 128) = false := by simp [h8]
          have H8 := Lib.hid h8
          clear h8
          go_wp2_with fail
          go_roundw
          case rel => exact ⟨j + 1, by omega, by go_num, fun k hk hkj => by rcases Nat.lt_succ_iff_lt_or_eq.1 hkj with h | rfl; exact HN.out k hk h; exact HS.out ▸ H8.out, (by first | rfl | trivial)⟩
          case measure => (simp [intOf]; try omega)
        · have h8' : ((s.size : Int) != 128) = true := by simp; omega
          have H8 := Lib.hid h8
          clear h8
          go_wp2_with fail
          go_ret
          exact ⟨ret_int (by rw [HE.out]; unfold flErr; rw [if_pos HT.out, if_neg (fun hx => H8.out (hx s (HS.out ▸ List.getElem_mem _)))]), HB0.out⟩
      · go_wp2_with fail
        go_ret
        exact ⟨ret_int (by
          rw [HE.out]; unfold flErr
          rw [if_pos HT.out, if_pos (fun s hs => by
            obtain ⟨k, hk, rfl⟩ := List.getElem_of_mem hs
            exact HN.out k hk (by omega))]), HB0.out⟩
  · have t1 : (decide ((1 : Int) ≤ f.bl.length) && decide ((f.bl.length : Int) ≤ 32)) = false := by simp; omega
    have HE1 := Lib.hid (show E = 3 by rw [HE.out]; unfold flErr; rw [if_neg t0])
    clear t0
    go_enter Try.func15, Try.ntmps15
    go_wp2_with (go_at_call 36; refine (between_any _ _ _ _).mono ?_; rintro e w' ⟨rfl, rfl⟩)
    go_ret
    exact ⟨ret_int HE1.out.symm, HB0.out⟩

end Go.Proofs.Ytpmjgkngkaleeaa
