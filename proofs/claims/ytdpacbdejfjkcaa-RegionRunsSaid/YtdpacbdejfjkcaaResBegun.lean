import Derived.Test.YtdpacbdejfjkcaaLits
/- resolveBegun returns true. -/
namespace Go.Proofs.Ytdpacbdejfjkcaa
open Go.RowKit

abbrev pairL (a1 a2 a3 b1 b2 b3 : Option Addr) (a4 a5 a6 b4 b5 b6 : Nat) : List Plc := [⟨appM a1 a2 a3 a4 a5 a6, 1⟩, ⟨libM b1 b2 b3 b4 b5 b6, 4⟩]
theorem begun_find1 (A c a1 a2 a3 a4 a5 a6 b1 b2 b3 b4 b5 b6) : findOf (kern A c) (pairL a1 a2 a3 b1 b2 b3 a4 a5 a6 b4 b5 b6) ⟨⟨#[108, 105, 98]⟩, ⟨#[102]⟩, 1, 1⟩ = (4356, 0) := by kernel_rfl
theorem begun_find2 (A c a1 a2 a3 a4 a5 a6 b1 b2 b3 b4 b5 b6) : findOf (kern A c) (pairL a1 a2 a3 b1 b2 b3 a4 a5 a6 b4 b5 b6) ⟨⟨#[108, 105, 98]⟩, ⟨#[102]⟩, 1, 3⟩ = (0, 4) := by kernel_rfl
theorem begun_all (A c a1 a2 a3 a4 a5 a6 b1 b2 b3 b4 b5 b6 c1 c2 c3 c4 c5 c6) : allOf (kern A c) (pairL a1 a2 a3 b1 b2 b3 a4 a5 a6 b4 b5 b6) (appM c1 c2 c3 c4 c5 c6) = ([4356, 2], 0) := by kernel_rfl
theorem begun_kern (A c) : krnErr (kern A c) = 0 := by kernel_rfl


set_option maxHeartbeats 4000000 in
set_option maxRecDepth 100000 in
theorem resolveBegun_any (w : World) : Calls Try.prog 27 #[] w fun e w' => e = .returned (.bool true) ∧ Below w.heap.size w w' := by
  go_enter Try.func27, Try.ntmps27
  go_wp2_with fail
  refine (kernel_any _).mono ?_; rintro e w1 ⟨⟨A1, c1, rfl, hk1⟩, hb1⟩
  go_wp2_with fail
  refine (pair_any _).mono ?_; rintro e w2 ⟨⟨A2, c2, a1, a2, a3, a4, a5, a6, b1, b2, b3, b4, b5, b6, rfl, hl2⟩, hb2⟩
  go_wp2_with fail
  refine (app_any _).mono ?_; rintro e w3 ⟨⟨m1, m2, m3, m4, m5, m6, rfl, hm3⟩, hb3⟩
  have hs1 := hb1.size
  have hs2 := hb2.size
  have hs3 := hb3.size
  obtain ⟨ad, e0, hab, i0, i1, i2, i3⟩ := imp_at hm3.im.1 (Below.refl _ _) 0 (by simp [appM])
  have e0' : m2 = some ad := e0
  subst e0'
  have i0' : w3.cell? ad = some (.string ⟨#[108, 105, 98]⟩) := by simpa [appM, Addr.add] using i0
  have i1' : w3.cell? ⟨ad.block, ad.off + 1, none⟩ = some (.string ⟨#[102]⟩) := by simpa [appM, Addr.add] using i1
  have i2' : w3.cell? ⟨ad.block, ad.off + 2, none⟩ = some (.int .i64 1) := by simpa [appM, Addr.add] using i2
  have i3' : w3.cell? ⟨ad.block, ad.off + 3, none⟩ = some (.int .i64 1) := by simpa [appM, Addr.add] using i3
  clear i0 i1 i2 i3 e0
  have hav : (appM m1 (some ad) m3 m4 m5 m6).v = .agg #[.string ⟨#[97, 112, 112]⟩, .int .i64 0, .int .i64 0, .string ⟨#[46, 46, 46, 46, 46, 46, 46, 46]⟩, .slice m1 0 m4, .slice (some ad) 2 m5, .slice m3 2 m6] := rfl
  have hfd : ∀ w : World, (Instr.field 26 (.agg #[.string ⟨#[97, 112, 112]⟩, .int .i64 0, .int .i64 0, .string ⟨#[46, 46, 46, 46, 46, 46, 46, 46]⟩, .slice m1 0 m4, .slice (some ad) 2 m5, .slice m3 2 m6]) 5).run Try.prog w = .ok (.slice (some ad) 2 m5) w := fun _ => by kernel_rfl
  have f1 := Lib.hid (Find_any (kern A1 c1) A2 c2 (pairL a1 a2 a3 b1 b2 b3 a4 a5 a6 b4 b5 b6) ⟨⟨#[108, 105, 98]⟩, ⟨#[102]⟩, 1, 1⟩ w3 ((hk1.below hb2).below hb3) (hl2.below hb3) (by unfold big; decide))
  rw [begun_find1] at f1
  go_wp2_with fail
  refine (f1.out).mono ?_; rintro e w4 ⟨rfl, hb4⟩
  clear hav hfd i0' i1' i2' i3' f1
  go_wp2_with fail
  refine (kernel_any _).mono ?_; rintro e w5 ⟨⟨A5, c5, rfl, hk5⟩, hb5⟩
  go_wp2_with fail
  refine (pair_any _).mono ?_; rintro e w6 ⟨⟨A6, c6, d1, d2, d3, d4, d5, d6, e1, e2, e3, e4, e5, e6, rfl, hl6⟩, hb6⟩
  go_wp2_with fail
  refine (app_any _).mono ?_; rintro e w7 ⟨⟨n1, n2, n3, n4, n5, n6, rfl, hm7⟩, hb7⟩
  have hs5 := hb5.size
  have hs6 := hb6.size
  have hs7 := hb7.size
  have f2 := Lib.hid (All_any (kern A5 c5) A6 c6 (pairL d1 d2 d3 e1 e2 e3 d4 d5 d6 e4 e5 e6) (appM n1 n2 n3 n4 n5 n6) w7 ((hk5.below hb6).below hb7) (hl6.below hb7) hm7)
  rw [begun_all] at f2
  go_wp2_with fail
  refine (f2.out).mono ?_; rintro e w8 ⟨⟨A8, c8, rfl, hr8⟩, hb8⟩
  clear f2
  go_wp2_with fail
  refine (kernel_any _).mono ?_; rintro e w9 ⟨⟨A9, c9, rfl, hk9⟩, hb9⟩
  go_wp2_with fail
  refine (pair_any _).mono ?_; rintro e w10 ⟨⟨A10, c10, g1, g2, g3, g4, g5, g6, h1, h2, h3, h4, h5, h6, rfl, hl10⟩, hb10⟩
  have hs8 := hb8.size
  have hs9 := hb9.size
  have hs10 := hb10.size
  have f3 := Lib.hid (Find_any (kern A9 c9) A10 c10 (pairL g1 g2 g3 h1 h2 h3 g4 g5 g6 h4 h5 h6) ⟨⟨#[108, 105, 98]⟩, ⟨#[102]⟩, 1, 3⟩ w10 (hk9.below hb10) hl10 (by unfold big; decide))
  rw [begun_find2] at f3
  go_wp2_with fail
  refine (f3.out).mono ?_; rintro e w11 ⟨rfl, hb11⟩
  clear f3
  go_wp2_with fail
  refine (kernel_any _).mono ?_; rintro e w12 ⟨⟨A12, c12, rfl, hk12⟩, hb12⟩
  have f4 := Lib.hid (Kernel_any (kern A12 c12) w12 hk12)
  rw [begun_kern] at f4
  go_wp2_with fail
  refine (f4.out).mono ?_; rintro e w13 ⟨rfl, hb13⟩
  have hs11 := hb11.size
  have hs12 := hb12.size
  have hs13 := hb13.size
  clear f4
  have hbA : Below w8.heap.size w8 w13 := (hb9.trans ((hb10.mono hs9).trans ((hb11.mono (by omega)).trans ((hb12.mono (by omega)).trans (hb13.mono (by omega))))))
  have hbB := fun o => (Below.refl w13.heap.size w13).alloc (Nat.le_refl _) o
  have f5 := Lib.hid (SameInts_any A8 (some ⟨w13.heap.size, 0, none⟩) c8 2 [4356, 2] [4356, 2] (w13.alloc (.cells #[.int .i64 4356, .int .i64 2] 3)) (hr8.below (hbA.trans ((hbB _).mono (by omega)))) (row_block (enc := fun n => [iv n]) (k := 1) (fun _ => rfl) (heap_alloc_new w13 _) rfl) (by unfold big; simp) (by unfold big; simp))
  go_wp2_with (go_at_call 30; refine (f5.out).mono ?_; rintro e w14 ⟨rfl, hb14⟩)
  go_ret
  refine ⟨by simp, ?_⟩
  have b8 : Below w.heap.size w w8 := hb1.trans ((hb2.mono hs1).trans ((hb3.mono (by omega)).trans ((hb4.mono (by omega)).trans ((hb5.mono (by have := hb4.size; omega)).trans ((hb6.mono (by have := hb4.size; omega)).trans ((hb7.mono (by have := hb4.size; omega)).trans (hb8.mono (by have := hb4.size; omega))))))))
  exact b8.trans ((hbA.mono b8.size).trans (((hbB _).mono (by have := b8.size; omega)).trans (hb14.mono (by have := b8.size; simp; omega))))

end Go.Proofs.Ytdpacbdejfjkcaa
