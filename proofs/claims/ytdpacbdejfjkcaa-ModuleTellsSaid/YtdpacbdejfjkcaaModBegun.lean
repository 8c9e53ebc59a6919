import Derived.Test.YtdpacbdejfjkcaaSameW
import Derived.Test.YtdpacbdejfjkcaaBackPure
import Derived.Test.YtdpacbdejfjkcaaLits
/- moduleBegun returns true. -/
namespace Go.Proofs.Ytdpacbdejfjkcaa
open Go.RowKit

theorem SameC.trans {a b c : Mod} (h : SameC a b) (k : SameC b c) : SameC a c := ⟨h.name.trans k.name, h.major.trans k.major, h.minor.trans k.minor, h.text.trans k.text, h.ex.trans k.ex, h.im.trans k.im, h.pa.trans k.pa⟩
abbrev libBytes : List UInt8 := [3, 108, 105, 98, 1, 2, 8, 0, 97, 98, 99, 100, 101, 102, 103, 104, 1, 1, 102, 4, 0, 0, 0]
theorem lib_err (A B C a b c) : modErr (libM A B C a b c) = 0 := by kernel_rfl
theorem app_err (A B C a b c) : modErr (appM A B C a b c) = 0 := by kernel_rfl
theorem lib_enc (A B C a b c) : encMod (libM A B C a b c) = libBytes := by kernel_rfl
theorem enc_len {m : Mod} (h : modErr m = 0) : (encMod m).length ≤ 1000 := by
  obtain ⟨b1, b2, b3, b4, b5, b6, b7⟩ := enc_bounds h
  have f1 := flat_le (f := encExp) (K := 13) (l := m.ex) b6
  have f2 := flat_le (f := encImp) (K := 24) (l := m.im) b7
  have f3 := flat_le (f := encPat) (K := 6) (l := m.pa) (fun x _ => by rw [encPat_length]; omega)
  unfold encMod encHead
  simp only [List.length_append, digits_length, encName_length, data_len]
  omega

set_option maxHeartbeats 4000000 in
set_option maxRecDepth 100000 in
theorem moduleBegun_any (w : World) : Calls Try.prog 35 #[] w fun e w' => e = .returned (.bool true) ∧ Below w.heap.size w w' := by
  go_enter Try.func35, Try.ntmps35
  go_wp2_with fail
  refine (lib_any _).mono ?_; rintro e w1 ⟨⟨A1, B1, C1, a1, b1, c1, rfl, hm1⟩, hb1⟩
  have f1 := Lib.hid (Encode_any _ w1 hm1)
  rw [lib_err, if_neg (by omega), lib_enc] at f1
  go_wp2_with fail
  refine (f1.out).mono ?_; rintro e w2 ⟨rfl, hb2⟩
  have f2 := Lib.hid (Decode_any libBytes w2 (by unfold big; simp))
  have hd := dec_enc_ok (lib_err A1 B1 C1 a1 b1 c1)
  rw [lib_enc] at hd
  rw [hd.1] at f2
  go_wp2_with fail
  refine (f2.out).mono ?_; rintro e w3 ⟨⟨m, rfl, hok, hs⟩, hb3⟩
  have hsm := hs.trans hd.2
  have hs1 := hb1.size
  have hs2 := hb2.size
  have hs3 := hb3.size
  obtain ⟨w4, hw4⟩ : ∃ w4, w4 = w3.alloc (.cells #[.string m.name, .int .i64 m.major, .int .i64 m.minor, .string m.text, .slice m.eA m.ex.length m.eC, .slice m.iA m.im.length m.iC, .slice m.pA m.pa.length m.pC] 26) := ⟨_, rfl⟩
  obtain ⟨e0, e1, e2, e3, e4, e5, e6, hz, hb4⟩ := box7 hw4
  have HW4 := Lib.hid hw4.symm
  have HB4 := Lib.hid (show Below w.heap.size w w4 from hb1.trans ((hb2.mono hs1).trans ((hb3.mono (by omega)).trans (hb4.mono (by omega)))))
  have HOK := Lib.hid (hok.below hb4)
  have HSM := Lib.hid (show ∀ A B C a b c, SameC m (libM A B C a b c) from fun A B C a b c => hsm.trans ⟨rfl, rfl, rfl, rfl, rfl, rfl, rfl⟩)
  have hlt4 : w3.heap.size < w4.heap.size := by omega
  clear f1 f2 hd hs hsm hok hb1 hb2 hb3 hs1 hs2 hs3 hw4 hz hb4
  have HC0 := Lib.hid (show Below w4.heap.size w4 w4 ∧ w4.cell? ⟨w3.heap.size, 0, none⟩ = some (.string m.name) ∧ w4.cell? ⟨w3.heap.size, 1, none⟩ = some (.int .i64 m.major) ∧ w4.cell? ⟨w3.heap.size, 2, none⟩ = some (.int .i64 m.minor) ∧ w4.cell? ⟨w3.heap.size, 3, none⟩ = some (.string m.text) ∧ w4.cell? ⟨w3.heap.size, 4, none⟩ = some (.slice m.eA m.ex.length m.eC) ∧ w4.cell? ⟨w3.heap.size, 5, none⟩ = some (.slice m.iA m.im.length m.iC) ∧ w4.cell? ⟨w3.heap.size, 6, none⟩ = some (.slice m.pA m.pa.length m.pC) from ⟨Below.refl _ _, by assumption, by assumption, by assumption, by assumption, by assumption, by assumption, by assumption⟩)
  have HCD := Lib.hid (show ∀ W' : World, (Below w4.heap.size w4 W' ∧ W'.cell? ⟨w3.heap.size, 0, none⟩ = some (.string m.name) ∧ W'.cell? ⟨w3.heap.size, 1, none⟩ = some (.int .i64 m.major) ∧ W'.cell? ⟨w3.heap.size, 2, none⟩ = some (.int .i64 m.minor) ∧ W'.cell? ⟨w3.heap.size, 3, none⟩ = some (.string m.text) ∧ W'.cell? ⟨w3.heap.size, 4, none⟩ = some (.slice m.eA m.ex.length m.eC) ∧ W'.cell? ⟨w3.heap.size, 5, none⟩ = some (.slice m.iA m.im.length m.iC) ∧ W'.cell? ⟨w3.heap.size, 6, none⟩ = some (.slice m.pA m.pa.length m.pC)) → (Below w4.heap.size w4 W'.drew ∧ W'.drew.cell? ⟨w3.heap.size, 0, none⟩ = some (.string m.name) ∧ W'.drew.cell? ⟨w3.heap.size, 1, none⟩ = some (.int .i64 m.major) ∧ W'.drew.cell? ⟨w3.heap.size, 2, none⟩ = some (.int .i64 m.minor) ∧ W'.drew.cell? ⟨w3.heap.size, 3, none⟩ = some (.string m.text) ∧ W'.drew.cell? ⟨w3.heap.size, 4, none⟩ = some (.slice m.eA m.ex.length m.eC) ∧ W'.drew.cell? ⟨w3.heap.size, 5, none⟩ = some (.slice m.iA m.im.length m.iC) ∧ W'.drew.cell? ⟨w3.heap.size, 6, none⟩ = some (.slice m.pA m.pa.length m.pC)) from fun W' ⟨b, a0, a1, a2, a3, a4, a5, a6⟩ => ⟨b.drew, a0, a1, a2, a3, a4, a5, a6⟩)
  have HCS := Lib.hid (show ∀ W' W2 : World, (Below w4.heap.size w4 W' ∧ W'.cell? ⟨w3.heap.size, 0, none⟩ = some (.string m.name) ∧ W'.cell? ⟨w3.heap.size, 1, none⟩ = some (.int .i64 m.major) ∧ W'.cell? ⟨w3.heap.size, 2, none⟩ = some (.int .i64 m.minor) ∧ W'.cell? ⟨w3.heap.size, 3, none⟩ = some (.string m.text) ∧ W'.cell? ⟨w3.heap.size, 4, none⟩ = some (.slice m.eA m.ex.length m.eC) ∧ W'.cell? ⟨w3.heap.size, 5, none⟩ = some (.slice m.iA m.im.length m.iC) ∧ W'.cell? ⟨w3.heap.size, 6, none⟩ = some (.slice m.pA m.pa.length m.pC)) → Below W'.heap.size W' W2 → (Below w4.heap.size w4 W2 ∧ W2.cell? ⟨w3.heap.size, 0, none⟩ = some (.string m.name) ∧ W2.cell? ⟨w3.heap.size, 1, none⟩ = some (.int .i64 m.major) ∧ W2.cell? ⟨w3.heap.size, 2, none⟩ = some (.int .i64 m.minor) ∧ W2.cell? ⟨w3.heap.size, 3, none⟩ = some (.string m.text) ∧ W2.cell? ⟨w3.heap.size, 4, none⟩ = some (.slice m.eA m.ex.length m.eC) ∧ W2.cell? ⟨w3.heap.size, 5, none⟩ = some (.slice m.iA m.im.length m.iC) ∧ W2.cell? ⟨w3.heap.size, 6, none⟩ = some (.slice m.pA m.pa.length m.pC)) from fun W' W2 ⟨b, a0, a1, a2, a3, a4, a5, a6⟩ hb => have s := b.size; ⟨b.trans (hb.mono s), (hb.cell (by first | omega | (simp; omega) | (simp only [block_of_add]; omega))).trans a0, (hb.cell (by first | omega | (simp; omega) | (simp only [block_of_add]; omega))).trans a1, (hb.cell (by first | omega | (simp; omega) | (simp only [block_of_add]; omega))).trans a2, (hb.cell (by first | omega | (simp; omega) | (simp only [block_of_add]; omega))).trans a3, (hb.cell (by first | omega | (simp; omega) | (simp only [block_of_add]; omega))).trans a4, (hb.cell (by first | omega | (simp; omega) | (simp only [block_of_add]; omega))).trans a5, (hb.cell (by first | omega | (simp; omega) | (simp only [block_of_add]; omega))).trans a6⟩)
  have HCA := Lib.hid (show ∀ (W' : World) (o : Obj), (Below w4.heap.size w4 W' ∧ W'.cell? ⟨w3.heap.size, 0, none⟩ = some (.string m.name) ∧ W'.cell? ⟨w3.heap.size, 1, none⟩ = some (.int .i64 m.major) ∧ W'.cell? ⟨w3.heap.size, 2, none⟩ = some (.int .i64 m.minor) ∧ W'.cell? ⟨w3.heap.size, 3, none⟩ = some (.string m.text) ∧ W'.cell? ⟨w3.heap.size, 4, none⟩ = some (.slice m.eA m.ex.length m.eC) ∧ W'.cell? ⟨w3.heap.size, 5, none⟩ = some (.slice m.iA m.im.length m.iC) ∧ W'.cell? ⟨w3.heap.size, 6, none⟩ = some (.slice m.pA m.pa.length m.pC)) → (Below w4.heap.size w4 (W'.alloc o) ∧ (W'.alloc o).cell? ⟨w3.heap.size, 0, none⟩ = some (.string m.name) ∧ (W'.alloc o).cell? ⟨w3.heap.size, 1, none⟩ = some (.int .i64 m.major) ∧ (W'.alloc o).cell? ⟨w3.heap.size, 2, none⟩ = some (.int .i64 m.minor) ∧ (W'.alloc o).cell? ⟨w3.heap.size, 3, none⟩ = some (.string m.text) ∧ (W'.alloc o).cell? ⟨w3.heap.size, 4, none⟩ = some (.slice m.eA m.ex.length m.eC) ∧ (W'.alloc o).cell? ⟨w3.heap.size, 5, none⟩ = some (.slice m.iA m.im.length m.iC) ∧ (W'.alloc o).cell? ⟨w3.heap.size, 6, none⟩ = some (.slice m.pA m.pa.length m.pC)) from fun W' o hc => HCS.out W' (W'.alloc o) hc ((Below.refl _ _).alloc (Nat.le_refl _) o))
  have HCL := Lib.hid (show ∀ W' : World, (Below w4.heap.size w4 W' ∧ W'.cell? ⟨w3.heap.size, 0, none⟩ = some (.string m.name) ∧ W'.cell? ⟨w3.heap.size, 1, none⟩ = some (.int .i64 m.major) ∧ W'.cell? ⟨w3.heap.size, 2, none⟩ = some (.int .i64 m.minor) ∧ W'.cell? ⟨w3.heap.size, 3, none⟩ = some (.string m.text) ∧ W'.cell? ⟨w3.heap.size, 4, none⟩ = some (.slice m.eA m.ex.length m.eC) ∧ W'.cell? ⟨w3.heap.size, 5, none⟩ = some (.slice m.iA m.im.length m.iC) ∧ W'.cell? ⟨w3.heap.size, 6, none⟩ = some (.slice m.pA m.pa.length m.pC)) → Below w4.heap.size w4 W' from fun W' hc => hc.1)
  clear e0 e1 e2 e3 e4 e5 e6
  go_wp2_with fail
  rw [HW4.out]
  go_region_held3 (fun W' => Below w4.heap.size w4 W' ∧ W'.cell? ⟨w3.heap.size, 0, none⟩ = some (.string m.name) ∧ W'.cell? ⟨w3.heap.size, 1, none⟩ = some (.int .i64 m.major) ∧ W'.cell? ⟨w3.heap.size, 2, none⟩ = some (.int .i64 m.minor) ∧ W'.cell? ⟨w3.heap.size, 3, none⟩ = some (.string m.text) ∧ W'.cell? ⟨w3.heap.size, 4, none⟩ = some (.slice m.eA m.ex.length m.eC) ∧ W'.cell? ⟨w3.heap.size, 5, none⟩ = some (.slice m.iA m.im.length m.iC) ∧ W'.cell? ⟨w3.heap.size, 6, none⟩ = some (.slice m.pA m.pa.length m.pC)) (first | exact HC0.out | exact HCD.out _ HC0.out | exact HCS.out _ _ (by assumption) (by assumption) | exact HCS.out _ _ HC0.out (by assumption) | exact HCS.out _ _ (HCD.out _ HC0.out) (by assumption) | exact HCS.out _ _ (HCD.out _ (by assumption)) (by assumption) | exact HCD.out _ (by assumption) | exact HCA.out _ _ (by assumption) | exact HCA.out _ _ HC0.out | exact HCA.out _ _ (HCD.out _ HC0.out) | exact HCD.out _ (HCA.out _ _ (by assumption)) | assumption) (first | (go_at_call 56; refine (app_any _).mono ?_; rintro e w5 ⟨⟨m1, m2, m3, m4, m5, m6, rfl, hm5⟩, hb5⟩; have cA := Lib.hid (Check_any _ w5 hm5); rw [app_err] at cA) | (go_at_call 36; refine (cA.out).mono ?_; rintro e w6 ⟨rfl, hb6⟩) | (go_at_call 47; refine (lib_any _).mono ?_; rintro e w7 ⟨⟨A2, B2, C2, a2, b2, c2, rfl, hm7⟩, hb7⟩) | (go_at_call 37; refine (SameModule_any m (libM A2 B2 C2 a2 b2 c2) w7 (HSM.out A2 B2 C2 a2 b2 c2) (HOK.out.below (HCL.out _ (by assumption))) hm7).mono ?_; rintro e w8 ⟨rfl, hb8⟩))
  have hB := HCL.out _ (by assumption)
  clear HC0 HCD HCS HCA HCL
  go_wp2_with fail
  go_ret
  exact ⟨by simp, HB4.out.trans (hB.mono HB4.out.size)⟩

end Go.Proofs.Ytdpacbdejfjkcaa
