import Derived.Test.YtpmjgkngkaleeaaRNewW
import Derived.Deep.CutBlock
/- The document's deedBytes (chapter K): the block that a deed turns, and its bytes then. -/
namespace Go.Proofs.Ytpmjgkngkaleeaa
open Go.RowKit

set_option maxHeartbeats 4000000 in
set_option maxRecDepth 100000 in
theorem deedBytes_any (A : Option Addr) (c : Nat) (bl : List ByteArray) (d : Ded) (w : World) (h : TextsOk w A bl) (hf : flErr bl = 0) (hd : dedErr bl.length d = 0) :
    Calls Try.prog 38 #[.agg #[.slice A bl.length c], .agg #[.int .i64 d.kind, .int .i64 d.at_, .int .i64 d.value]] w fun e w' => Below w.heap.size w w' ∧ ∃ (g cap : Nat), e = .returned (.tuple #[.int .i64 (deedPos d : Nat), .slice (some ⟨g, 0, none⟩) 128 cap]) ∧ w.heap.size ≤ g ∧ BytesAt w' g (deedNew bl d) := by
  obtain ⟨hln, h2⟩ := flErr_ok.1 hf
  obtain ⟨w1, hw1⟩ : ∃ w1, w1 = w.alloc (.cells #[.slice A bl.length c] 24) := ⟨_, rfl⟩
  obtain ⟨f0, hz1, hb1⟩ := box1 hw1
  obtain ⟨w2, hw2⟩ : ∃ w2, w2 = w1.alloc (.cells #[.int .i64 d.kind, .int .i64 d.at_, .int .i64 d.value] 32) := ⟨_, rfl⟩
  obtain ⟨d0, d1, d2, hz2, hb2⟩ := box3 hw2
  have k0 := (hb2.cell (p := ⟨w.heap.size, 0, none⟩) (by simp; omega)).trans f0
  have HB2 := Lib.hid (hb1.trans (hb2.mono (by omega)))
  have HZ := Lib.hid (show w1.heap.size = w.heap.size + 1 ∧ w2.heap.size = w.heap.size + 2 by omega)
  have hw1' := hw1.symm
  have hw2' := hw2.symm
  have HT2 := Lib.hid (h.row.below HB2.out)
  have H2 := Lib.hid h2
  rcases ded_place hd with ⟨hk, hn, hj, hP, hV0, hV⟩ | ⟨hk, hn, hP, hV⟩
  · obtain ⟨K, P, V⟩ := d
    simp only at hk hn hj hP hV0 hV d0 d1 d2 hw2 hw2' ⊢
    obtain ⟨N, rfl⟩ : ∃ N : Nat, P = N := ⟨P.toNat, by omega⟩
    obtain ⟨U, rfl⟩ : ∃ U : Nat, V = U := ⟨V.toNat, by omega⟩
    subst hk
    obtain ⟨q, hq⟩ : ∃ q : Nat, q = N / 128 := ⟨_, rfl⟩
    obtain ⟨r, hr⟩ : ∃ r : Nat, r = N % 128 := ⟨_, rfl⟩
    have hqn : q < bl.length := by omega
    have hqn' : (q : Int) < bl.length := by omega
    have hr8 : r < 128 := by omega
    have q2 : (N : Int) / 128 = q := by omega
    have r2 : (N : Int) % 128 = r := by omega
    have r3 : (N : Int).tmod 128 = r := by rw [Int.tmod_eq_emod_of_nonneg (by omega)]; exact r2
    obtain ⟨s0, hs0⟩ : ∃ s, s = bl[q]'hqn := ⟨_, rfl⟩
    have hs0' : bl.getD q ⟨#[]⟩ = s0 := by rw [hs0, List.getD_eq_getElem?_getD, List.getElem?_eq_getElem hqn]; rfl
    obtain ⟨ad, rfl, hab, ht0⟩ := text_at HT2.out (Below.refl _ _) q hqn
    rw [← hs0] at ht0
    have hsz : s0.size = 128 := by rw [hs0]; exact h2 _ (List.getElem_mem hqn)
    obtain ⟨x, hx⟩ : ∃ x : Nat, x = ((bytesOf s0).getD r 0).toNat := ⟨_, rfl⟩
    have hx8 : x < 256 := by rw [hx]; exact u8_lt_ _
    have hU8 : U < 256 := by omega
    have qU : IntKind.u8.wrap (U : Int) = U := by rw [IntKind.wrap_u8']; omega
    have cB := Lib.hid (fun W => both_any x U W hx8 hU8)
    obtain ⟨m, hm⟩ : ∃ m, m = x &&& U := ⟨_, rfl⟩
    rw [← hm] at cB
    have hm8 : m < 256 := by rw [hm]; exact and_lt hx8
    have HPOS := Lib.hid (show deedPos ⟨1, N, U⟩ = q by unfold deedPos; rw [if_neg (show ¬ ((1 : Int) = 2) by decide)]; simp only [q2, Int.toNat_natCast])
    have HNEW := Lib.hid (show deedNew bl ⟨1, N, U⟩ = (bytesOf s0).set r (UInt8.ofNat m) by
      unfold deedNew; rw [if_neg (show ¬ ((1 : Int) = 2) by decide)]
      simp only [q2, r2, Int.toNat_natCast]
      rw [hs0', hm, hx])
    obtain ⟨F, C, hFC⟩ := bytes_of_str s0
    have hcv := fun W => (hFC W).1
    rw [hsz] at hcv
    obtain ⟨-, -, hB3, hb3⟩ := hFC w2
    obtain ⟨w3, hw3⟩ : ∃ x, x = F w2 := ⟨_, rfl⟩
    rw [← hw3] at hB3 hb3
    have hw3' := hw3.symm
    have hbl := bytes_length s0
    rw [hsz] at hbl
    have hgx := hB3.cellD r (by rw [hbl]; exact hr8)
    rw [← hx] at hgx
    have hgf := hB3.free r (by rw [hbl]; exact hr8)
    have hri : (r : Int) < 128 := by omega
    have e1 := (hb3.cell (p := ⟨w1.heap.size, 1, none⟩) (by simp; omega)).trans d1
    have e2 := (hb3.cell (p := ⟨w1.heap.size, 2, none⟩) (by simp; omega)).trans d2
    have h12 : w1.heap.size < w2.heap.size := by omega
    have h23 : w2.heap.size < w3.heap.size := hB3.lt
    have HW3 := Lib.hid (HB2.out.trans (hb3.mono HB2.out.size))
    have HSET := Lib.hid (show BytesAt (w3.drew.setCell ⟨w2.heap.size, r, none⟩ (.int .u8 (m : Int))) w2.heap.size ((bytesOf s0).set r (UInt8.ofNat m)) ∧ Below w2.heap.size w2 (w3.drew.setCell ⟨w2.heap.size, r, none⟩ (.int .u8 (m : Int))) from
      ⟨(BytesAt.kept (w' := w3.drew) hB3 rfl).setN r m hm8, (below_drewN hb3 1).setCell (p := ⟨w2.heap.size, r, none⟩) (Nat.le_refl _) _⟩)
    clear hw1 hw2 hw3 hb1 hb2 hz1 hz2 f0 h hf hd h2 hn hV0 hV hP hj hq hr hs0 hs0' hx hx8 hU8 hm hm8 hFC hB3 hb3 hbl hsz
    go_enter Try.func38, Try.ntmps38
    go_upto_region 4 with fail
    go_region_law ((go_simp; go_at_call 49; with_reducible refine (cB.out _).mono ?_; rintro e w' ⟨rfl, rfl⟩))
    all_goals go_wp2_with fail
    all_goals go_ret2
    all_goals exact ⟨HB2.out.trans (HSET.out.2.mono HB2.out.size), _, _, by rw [HPOS.out]; rfl, HB2.out.size, by rw [HNEW.out]; exact HSET.out.1⟩
  · rw [hk] at d0 hw2' ⊢
    obtain ⟨q, hq⟩ : ∃ q : Nat, d.at_ = q := ⟨d.at_.toNat, by omega⟩
    rw [hq] at d1 hw2' ⊢
    have HPOS := Lib.hid (show deedPos d = q by unfold deedPos; rw [if_pos hk, hq]; rfl)
    have HNEW := Lib.hid (show deedNew bl d = bytesOf blank by unfold deedNew; rw [if_pos hk]; exact (bytes_of _).symm)
    obtain ⟨B, hB⟩ : ∃ B, B = blank := ⟨_, rfl⟩
    have hBz : B.size = 128 := by rw [hB]; rfl
    obtain ⟨F, C, hFC⟩ := bytes_of_str B
    have hcv := fun W => (hFC W).1
    rw [hBz] at hcv
    have HFC := Lib.hid (fun W => (hFC W).2)
    have cN := Lib.hid (fun W => NewFlash_any 1 W (by omega))
    rw [← hB] at cN
    rw [show ((1 : Nat) : Int) = 1 from rfl] at cN
    have hfd := Lib.hid (fun (A' : Option Addr) (c' : Nat) (W : World) => (show (Instr.field 24 (.agg #[.slice A' 1 c']) 0).run Try.prog W = .ok (.slice A' 1 c') W from by kernel_rfl))
    have HB := Lib.hid hB
    clear hw1 hw2 hb1 hb2 hz1 hz2 f0 h hf hd h2 hk hn hP hV hB hFC hq
    go_enter Try.func38, Try.ntmps38
    go_upto_region 2 with fail
    go_region_law ((go_simp; go_at_call 17; refine (cN.out _).mono ?_; rintro e w5 ⟨hb5, A5, c5, rfl, hc5, ho5⟩; obtain ⟨g5, rfl, hg5, hl5, hx5, -, -⟩ := ho5.at_ rfl 0 (by omega); have hx5' : w5.cell? ⟨g5, 0, none⟩ = some (.string B) := hx5; have hfe := hfd.out (some ⟨g5, 0, none⟩) c5; have y1 := (hb5.cell (p := ⟨w1.heap.size, 1, none⟩) (by have := HZ.out; simp; omega)).trans d1; have hz5 := hb5.size; have HF5 := Lib.hid (show Below w2.heap.size w2 (F w5) from ((show Below w2.heap.size w2 w2.drew from below_drewN (Below.refl _ _) 1).trans hb5).trans ((HFC.out w5).2.2.mono hb5.size)); have y2 := ((HFC.out w5).2.2.cell (p := ⟨w1.heap.size, 1, none⟩) (by have := HZ.out; have : w2.heap.size ≤ w5.heap.size := hz5; simp; omega)).trans y1; clear hfd hx5 hb5 ho5 hc5))
    all_goals (
    go_wp2_with fail
    go_ret2
    refine ⟨HB2.out.trans (HF5.out.mono HB2.out.size), _, _, by rw [HPOS.out]; rfl, Nat.le_trans HB2.out.size (Nat.le_trans hz5 (Nat.le_refl _)), ?_⟩
    rw [HNEW.out, ← HB.out]
    exact (HFC.out _).2.1)

end Go.Proofs.Ytpmjgkngkaleeaa
