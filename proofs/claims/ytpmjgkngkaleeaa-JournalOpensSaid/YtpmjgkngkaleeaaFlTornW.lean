import Derived.Test.YtpmjgkngkaleeaaFlDoW
/- flash.Torn, flash.Read (chapter K). -/
namespace Go.Proofs.Ytpmjgkngkaleeaa
open Go.RowKit

theorem cell_lt' {w : World} {a : Addr} {v : Value} (h : w.cell? a = some v) : a.block < w.heap.size := by
  rcases Nat.lt_or_ge a.block w.heap.size with hlt | hge
  · exact hlt
  · unfold World.cell? at h; rw [Array.getElem?_eq_none hge] at h; cases h
theorem deds_one (bl : List ByteArray) (d : Ded) : dedsErr bl [d] = if flErr bl = 0 then dedErr bl.length d else flErr bl := by
  unfold dedsErr
  split
  · show (if dedErr bl.length d = 0 then 0 else dedErr bl.length d) = _
    split
    · next h => exact h.symm
    · rfl
  · rfl
theorem tornP_lt (d : Ded) (l : List UInt8) (i : Nat) : tornP d l i < 256 := by
  unfold tornP
  split
  · exact u8_lt_ _
  · split
    · omega
    · omega

set_option maxHeartbeats 4000000 in
set_option maxRecDepth 100000 in
theorem Torn_any (f : Fl) (K P V : Int) (s : ByteArray) (w : World) (h : f.ok w) (hs : s.size ≤ big) :
    Calls Try.prog 14 #[f.v, .agg #[.int .i64 K, .int .i64 P, .int .i64 V], .string s] w fun e w' => Below w.heap.size w w' ∧ ∃ f' : Fl, e = .returned (.tuple #[f'.v, .int .i64 (dedsErr f.bl [⟨K, P, V⟩])]) ∧ FlRes w' w.heap.size f' (resIf (dedsErr f.bl [⟨K, P, V⟩]) (tornL f.bl ⟨K, P, V⟩ (bytesOf s))) := by
  obtain ⟨w1, hw1⟩ : ∃ w1, w1 = w.alloc (.cells #[.slice f.a f.bl.length f.c] 24) := ⟨_, rfl⟩
  obtain ⟨f0, hz1, hb1⟩ := box1 hw1
  obtain ⟨w2, hw2⟩ : ∃ w2, w2 = w1.alloc (.cells #[.int .i64 K, .int .i64 P, .int .i64 V] 32) := ⟨_, rfl⟩
  obtain ⟨d0, d1, d2, hz2, hb2⟩ := box3 hw2
  obtain ⟨w3, hw3⟩ : ∃ w3, w3 = w2.alloc (.cells #[.string s] 9) := ⟨_, rfl⟩
  obtain ⟨s0, hz3, hb3⟩ := box1 hw3
  obtain ⟨w4, hw4⟩ : ∃ w4, w4 = w3.alloc (.cells #[.slice none 0 0] 24) := ⟨_, rfl⟩
  obtain ⟨_, hR, hz4, hb4⟩ := box_new hw4
  have HB24 := Lib.hid (hb3.trans (hb4.mono (by omega)))
  have k0 := (HB24.out.cell (p := ⟨w.heap.size, 0, none⟩) (by simp; omega)).trans ((hb2.cell (p := ⟨w.heap.size, 0, none⟩) (by simp; omega)).trans f0)
  have x0 := (HB24.out.cell (p := ⟨w1.heap.size, 0, none⟩) (by simp; omega)).trans d0
  have x1 := (HB24.out.cell (p := ⟨w1.heap.size, 1, none⟩) (by simp; omega)).trans d1
  have x2 := (HB24.out.cell (p := ⟨w1.heap.size, 2, none⟩) (by simp; omega)).trans d2
  have p0 := (hb4.cell (p := ⟨w2.heap.size, 0, none⟩) (by simp; omega)).trans s0
  have HB4 := Lib.hid (hb1.trans ((hb2.mono (by omega)).trans (HB24.out.mono (by omega))))
  have hw1' := hw1.symm
  have hw2' := hw2.symm
  have hw3' := hw3.symm
  have hw4' := hw4.symm
  have HR := Lib.hid hR
  have HZ := Lib.hid (show w1.heap.size = w.heap.size + 1 ∧ w2.heap.size = w.heap.size + 2 ∧ w3.heap.size = w.heap.size + 3 ∧ w4.heap.size = w.heap.size + 4 by omega)
  have cF := Lib.hid (Check_any f w4 (h.below HB4.out))
  have H := Lib.hid h
  obtain ⟨E, hE⟩ : ∃ E, E = dedsErr f.bl [⟨K, P, V⟩] := ⟨_, rfl⟩
  rw [← hE]
  rw [deds_one] at hE
  obtain ⟨e0, he0⟩ : ∃ e, e = flErr f.bl := ⟨_, rfl⟩
  rw [← he0] at cF hE
  have HF := Lib.hid he0
  by_cases t0 : e0 = 0
  · rw [if_pos t0] at hE
    have h32 := (flErr_ok.1 (he0.symm.trans t0)).1.2
    have cD := Lib.hid (fun W => deed_any f.bl.length f.a f.c K P V W h32)
    rw [← hE] at cD
    have HE := Lib.hid hE
    subst t0
    clear hw1 hw2 hw3 hw4 hb1 hb2 hb3 hb4 hR h hE he0 hz1 hz2 hz3 hz4 f0 d0 d1 d2 s0 h32
    by_cases u : E = 0
    · subst u
      go_enter Try.func14, Try.ntmps14
      go_wp2_with (first
        | (go_at_call 21; refine (cF.out).mono ?_; rintro e w5 ⟨rfl, hb5⟩
           have hk5 := (hb5.cell (p := ⟨w.heap.size, 0, none⟩) (by have := HZ.out; simp; omega)).trans k0
           have ha5 := (hb5.cell (p := ⟨w1.heap.size, 0, none⟩) (by have := HZ.out; simp; omega)).trans x0
           have hb5' := (hb5.cell (p := ⟨w1.heap.size, 1, none⟩) (by have := HZ.out; simp; omega)).trans x1
           have hc5 := (hb5.cell (p := ⟨w1.heap.size, 2, none⟩) (by have := HZ.out; simp; omega)).trans x2
           have HB5 := Lib.hid hb5
           clear hb5)
        | (go_at_call 29; refine (cD.out _).mono ?_; rintro e w6 ⟨rfl, hb6⟩
           have HB6 := Lib.hid (HB5.out.trans (hb6.mono HB5.out.size))
           have hk6 := (HB6.out.cell (p := ⟨w.heap.size, 0, none⟩) (by have := HZ.out; simp; omega)).trans k0
           have ha6 := (HB6.out.cell (p := ⟨w1.heap.size, 0, none⟩) (by have := HZ.out; simp; omega)).trans x0
           have hb6' := (HB6.out.cell (p := ⟨w1.heap.size, 1, none⟩) (by have := HZ.out; simp; omega)).trans x1
           have hc6 := (HB6.out.cell (p := ⟨w1.heap.size, 2, none⟩) (by have := HZ.out; simp; omega)).trans x2
           have hp6 := (HB6.out.cell (p := ⟨w2.heap.size, 0, none⟩) (by have := HZ.out; simp; omega)).trans p0
           have HW6 := Lib.hid (HB4.out.trans (HB6.out.mono (by have := HZ.out; omega)))
           have cT := Lib.hid (turned_any f.a f.c f.bl K P V 35 #[.pointer (some ⟨w1.heap.size, 0, none⟩), .pointer (some ⟨w2.heap.size, 0, none⟩)] (tornP ⟨K, P, V⟩ (bytesOf s)) w6 (fun _ _ => by kernel_rfl) (H.out.below HW6.out).row HF.out.symm HE.out.symm
             (fun i W hi hW => TornPart_any w1.heap.size w2.heap.size K ⟨K, P, V⟩ rfl s i W ((hW.cell (p := ⟨w1.heap.size, 0, none⟩) (cell_lt' ha6)).trans ha6) ((hW.cell (p := ⟨w2.heap.size, 0, none⟩) (cell_lt' hp6)).trans hp6) hs) (fun i => tornP_lt _ _ i))
           clear hb6)
        | (go_at_call 34; refine (cT.out).mono ?_; rintro e w7 ⟨hb7, A7, c7, rfl, hc7, ho7⟩
           have HB7 := Lib.hid (HB6.out.trans (hb7.mono HB6.out.size))
           have hR7 := (HB7.out.block _ (by have := HZ.out; omega)).trans HR.out
           have z0 := cell_of_heap hR7 0
           have zf := free_of_heap hR7 0
           simp only [List.getElem?_toArray, List.getElem?_cons_zero] at z0
           have HR7 := Lib.hid hR7
           have HO7 := Lib.hid ho7
           clear hR7 ho7 hb7))
      refine fl_end rfl rfl HR7.out ?_
      have hnd := turned_length f.bl ⟨K, P, V⟩ (tornP ⟨K, P, V⟩ (bytesOf s))
      change (tornL f.bl ⟨K, P, V⟩ (bytesOf s)).length = _ at hnd
      refine ⟨(HB4.out.trans (HB7.out.mono (by have := HZ.out; omega))).setCell (p := ⟨w3.heap.size, 0, none⟩) (by have := HZ.out; simp; omega) _, ⟨tornL f.bl ⟨K, P, V⟩ (bytesOf s), A7, c7⟩, ?_, ?_, ?_, (resIf_zero rfl).symm⟩
      · show _ = Ending.returned (.tuple #[.agg #[.slice A7 (tornL f.bl ⟨K, P, V⟩ (bytesOf s)).length c7], _]); rw [hnd]; rfl
      · show TOwn _ _ (.slice A7 (tornL f.bl ⟨K, P, V⟩ (bytesOf s)).length c7) _
        rw [hnd]
        exact (HO7.out.set_other HR7.out (by decide) 0 _).more HW6.out.size
      · show (tornL f.bl ⟨K, P, V⟩ (bytesOf s)).length ≤ c7
        rw [hnd]; exact hc7
    · have u2 : (E != 0) = true := by simp [u]
      have HU := Lib.hid u
      clear u
      go_enter Try.func14, Try.ntmps14
      go_wp2_with (first
        | (go_at_call 21; refine (cF.out).mono ?_; rintro e w5 ⟨rfl, hb5⟩
           have hk5 := (hb5.cell (p := ⟨w.heap.size, 0, none⟩) (by have := HZ.out; simp; omega)).trans k0
           have ha5 := (hb5.cell (p := ⟨w1.heap.size, 0, none⟩) (by have := HZ.out; simp; omega)).trans x0
           have hb5' := (hb5.cell (p := ⟨w1.heap.size, 1, none⟩) (by have := HZ.out; simp; omega)).trans x1
           have hc5 := (hb5.cell (p := ⟨w1.heap.size, 2, none⟩) (by have := HZ.out; simp; omega)).trans x2
           have HB5 := Lib.hid hb5
           clear hb5)
        | (go_at_call 29; refine (cD.out _).mono ?_; rintro e w6 ⟨rfl, hb6⟩
           have HB6 := Lib.hid (HB5.out.trans (hb6.mono HB5.out.size))
           have hR7 := (HB6.out.block _ (by have := HZ.out; omega)).trans HR.out
           have z0 := cell_of_heap hR7 0
           have zf := free_of_heap hR7 0
           simp only [List.getElem?_toArray, List.getElem?_cons_zero] at z0
           have HR7 := Lib.hid hR7
           clear hR7 hb6))
      refine fl_end rfl rfl HR7.out ?_
      exact ⟨(HB4.out.trans (HB6.out.mono (by have := HZ.out; omega))).setCell (p := ⟨w3.heap.size, 0, none⟩) (by have := HZ.out; simp; omega) _, noFl, rfl, noFl_own _ _, Nat.le_refl _, (resIf_ne HU.out).symm⟩
  · rw [if_neg t0] at hE
    have u1 : (e0 == 0) = false := by simp [t0]
    have u2 : (e0 != 0) = true := by simp [t0]
    have HU := Lib.hid (show E ≠ 0 by rw [hE]; exact t0)
    have HE := Lib.hid hE.symm
    clear hw1 hw2 hw3 hw4 hb1 hb2 hb3 hb4 hR h hE he0 hz1 hz2 hz3 hz4 f0 d0 d1 d2 s0 t0
    go_enter Try.func14, Try.ntmps14
    go_wp2_with (
      go_at_call 21
      refine (cF.out).mono ?_
      rintro e w5 ⟨rfl, hb5⟩
      have HB6 := Lib.hid hb5
      have hR7 := (hb5.block _ (by have := HZ.out; omega)).trans HR.out
      have z0 := cell_of_heap hR7 0
      have zf := free_of_heap hR7 0
      simp only [List.getElem?_toArray, List.getElem?_cons_zero] at z0
      have HR7 := Lib.hid hR7
      clear hR7 hb5)
    refine fl_end rfl rfl HR7.out ?_
    exact ⟨(HB4.out.trans (HB6.out.mono (by have := HZ.out; omega))).setCell (p := ⟨w3.heap.size, 0, none⟩) (by have := HZ.out; simp; omega) _, noFl, ret_fl_err HE.out, noFl_own _ _, Nat.le_refl _, (resIf_ne HU.out).symm⟩

def readErr (bl : List ByteArray) (at_ many : Int) : Int := if flErr bl = 0 then (if at_ < 0 ∨ many < 0 ∨ 128 * bl.length < at_ ∨ 128 * bl.length - at_ < many then 3 else 0) else flErr bl
def readStr (bl : List ByteArray) (at_ many : Int) : ByteArray := if readErr bl at_ many = 0 then ofBytes (((flat bl).drop at_.toNat).take many.toNat) else ⟨#[]⟩
theorem extract_of (l : List UInt8) (i n : Nat) : (ofBytes l).extract i (i + n) = ofBytes ((l.drop i).take n) := by
  have : ((ofBytes l).extract i (i + n)).data.toList = (l.drop i).take n := by
    simp [ofBytes, ByteArray.data_extract, List.extract]
  refine ba_eq (this.trans ?_)
  simp [ofBytes]

set_option maxHeartbeats 4000000 in
set_option maxRecDepth 100000 in
theorem Read_any (f : Fl) (P M : Int) (w : World) (h : f.ok w) (hP : -9223372036854775808 ≤ P ∧ P ≤ 9223372036854775807) (hM : -9223372036854775808 ≤ M ∧ M ≤ 9223372036854775807) :
    Calls Try.prog 12 #[f.v, .int .i64 P, .int .i64 M] w fun e w' => e = .returned (.tuple #[.string (readStr f.bl P M), .int .i64 (readErr f.bl P M)]) ∧ Below w.heap.size w w' := by
  obtain ⟨w1, hw1⟩ : ∃ w1, w1 = w.alloc (.cells #[.slice f.a f.bl.length f.c] 24) := ⟨_, rfl⟩
  obtain ⟨f0, hz1, hb1⟩ := box1 hw1
  have hw1' := hw1.symm
  have HB1 := Lib.hid hb1
  have HZ := Lib.hid hz1
  have cF := Lib.hid (Check_any f w1 (h.below hb1))
  have cA := Lib.hid (fun W hW hf => All_any f W (h.below hW) hf)
  obtain ⟨S, hS⟩ : ∃ S, S = readStr f.bl P M := ⟨_, rfl⟩
  obtain ⟨E, hE⟩ : ∃ E, E = readErr f.bl P M := ⟨_, rfl⟩
  rw [← hS, ← hE]
  obtain ⟨e0, he0⟩ : ∃ e, e = flErr f.bl := ⟨_, rfl⟩
  rw [← he0] at cF
  unfold readStr at hS
  rw [← hE] at hS
  unfold readErr at hE
  rw [← he0] at hE
  by_cases t0 : e0 = 0
  · rw [if_pos t0] at hE
    have HF := Lib.hid (he0.symm.trans t0)
    obtain ⟨hl, h2⟩ := flErr_ok.1 HF.out
    have hfl := flat_length' h2
    obtain ⟨n, hn⟩ : ∃ n, n = f.bl.length := ⟨_, rfl⟩
    rw [← hn] at hE hl hfl
    obtain ⟨T, hT⟩ : ∃ T, T = ofBytes (flat f.bl) := ⟨_, rfl⟩
    have hTz : T.size = 128 * n := by rw [hT, ofBytes_size, hfl]
    rw [← hT] at cA
    subst t0
    by_cases t1 : P < 0 ∨ M < 0 ∨ 128 * (n : Int) < P ∨ 128 * (n : Int) - P < M
    · rw [if_pos t1] at hE
      rw [hE, if_neg (by decide)] at hS
      subst hE hS
      have HT1 := Lib.hid t1
      clear hw1 hb1 h he0 hz1 h2 hfl hT hn t1
      go_enter Try.func12, Try.ntmps12
      go_wp2_with (first
        | (go_at_call 21; refine (cF.out).mono ?_; rintro e w5 ⟨rfl, hb5⟩
           have hk5 := (hb5.cell (p := ⟨w.heap.size, 0, none⟩) (by have := HZ.out; simp; omega)).trans f0
           have HB5 := Lib.hid hb5
           have HW5 := Lib.hid (HB1.out.trans (hb5.mono HB1.out.size))
           clear hb5)
        | (go_at_call 31; refine (cA.out _ HW5.out HF.out).mono ?_; rintro e w6 ⟨rfl, hb6⟩))
      all_goals go_ret2
      all_goals first
        | exact ⟨rfl, HW5.out.trans (hb6.mono HW5.out.size)⟩
        | exact absurd HT1.out (by simp at *; omega)
    · rw [if_neg t1] at hE
      rw [hE, if_pos rfl] at hS
      subst hE
      have q0 : 0 ≤ P ∧ 0 ≤ M ∧ P ≤ 128 * (n : Int) ∧ M ≤ 128 * (n : Int) - P := by omega
      have HS := Lib.hid (show T.extract P.toNat (P + M).toNat = S by
        rw [hS, hT, show (P + M).toNat = P.toNat + M.toNat by omega, extract_of])
      obtain ⟨q1, q2, q3, q4⟩ := q0
      have q5 : ¬ (P < 0) := by omega
      have q6 : ¬ (M < 0) := by omega
      have q7 : ¬ (128 * (n : Int) < P) := by omega
      have q8 : ¬ (128 * (n : Int) - P < M) := by omega
      clear hw1 hb1 h he0 hz1 h2 hfl hT hn t1 hS
      go_enter Try.func12, Try.ntmps12
      go_wp2_with (first
        | (go_at_call 21; refine (cF.out).mono ?_; rintro e w5 ⟨rfl, hb5⟩
           have hk5 := (hb5.cell (p := ⟨w.heap.size, 0, none⟩) (by have := HZ.out; simp; omega)).trans f0
           have HB5 := Lib.hid hb5
           have HW5 := Lib.hid (HB1.out.trans (hb5.mono HB1.out.size))
           clear hb5)
        | (go_at_call 31; refine (cA.out _ HW5.out HF.out).mono ?_; rintro e w6 ⟨rfl, hb6⟩))
      all_goals go_ret2
      all_goals first
        | exact ⟨by rw [HS.out]; rfl, HW5.out.trans (hb6.mono HW5.out.size)⟩
        | exact absurd q1 (by simp at *; omega)
  · rw [if_neg t0] at hE
    have u2 : (e0 != 0) = true := by simp [t0]
    have HE := Lib.hid hE.symm
    rw [hE, if_neg t0] at hS
    subst hS
    clear hw1 hb1 h he0 hz1 t0 hE
    go_enter Try.func12, Try.ntmps12
    go_wp2_with (go_at_call 21; refine (cF.out).mono ?_; rintro e w5 ⟨rfl, hb5⟩)
    go_ret2
    exact ⟨by rw [HE.out]; rfl, HB1.out.trans (hb5.mono HB1.out.size)⟩

end Go.Proofs.Ytpmjgkngkaleeaa
