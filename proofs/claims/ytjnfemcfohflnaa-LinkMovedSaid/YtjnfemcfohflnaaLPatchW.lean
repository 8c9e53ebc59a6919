import Derived.Test.YtjnfemcfohflnaaLinkW
/- Bytes as they lie (chapter G): the linker's patch. -/
namespace Go.Proofs.Ytjnfemcfohflnaa
open Go.RowKit
open Gs (Tx)

theorem grown_setL (w : World) (b i : Nat) (v : Value) : w.grownBy (w.setCell ⟨b, i, none⟩ v) (some b) := ⟨rfl, rfl, rfl, by simp, fun k _ hne => Below.heap_setCell _ _ _ _ (fun e => hne (by rw [e]))⟩
theorem intl_at {w w' : World} {A : Option Addr} {l : List Int} (h : IntRow w A l) (hb : Below w.heap.size w w') (i : Nat) (hi : i < l.length) : ∃ ad, A = some ad ∧ ad.block < w.heap.size ∧ w'.cell? (ad.add i) = some (iv l[i]) := by
  obtain ⟨ad, rfl, hab, hc⟩ := Row.at_ (enc := fun n => [iv n]) (k := 1) (fun _ => rfl) h i hi
  have e0 := hc 0 _ rfl
  rw [add_zero_, Nat.mul_one] at e0
  exact ⟨ad, rfl, hab, (hb.cell (by rw [block_of_add]; exact hab)).trans e0⟩
set_option maxHeartbeats 4000000 in
set_option maxRecDepth 100000 in
theorem lpatch_any (x : Plc) (p : Nat) (sA : Option Addr) (sC : Nat) (ns : List Int) (s : ByteArray) (q : Pat) (w : World) (h : Lk w p x sA ns.length sC s) (hr : IntRow w sA ns) (hs : s.size ≤ 140737488351232) (h0 : 0 ≤ x.first) (h1 : x.first ≤ 16) (hq : q.sym < ns.length) :
    Calls Try.prog 21 #[.pointer (some ⟨p, 0, none⟩), .agg #[.int .i64 q.kind, .int .i64 q.at_, .int .i64 q.sym, .int .i64 q.add]] w fun e w' =>
      e = .returned (.int .i64 (applyErr s.size q.kind q.at_ q.add (symOf ns (baseOf x) q) (baseOf x))) ∧ Lk w' p x sA ns.length sC (applyStr s q.kind q.at_ q.add (symOf ns (baseOf x) q) (baseOf x)) ∧ w.grownBy w' (some p) := by
  obtain ⟨w0, hw0⟩ : ∃ w0, w0 = w.alloc (.cells #[.int .i64 q.kind, .int .i64 q.at_, .int .i64 q.sym, .int .i64 q.add] 39) := ⟨_, rfl⟩
  obtain ⟨q0, q1, q2, q3, hz0, hb0⟩ := box4 hw0
  have hplt := h.lt
  have hL0 := h.kept hb0
  have HR0 := Lib.hid (hr.below hb0)
  have HL0 := Lib.hid hL0
  have H0 := Lib.hid hb0
  have HZ0 := Lib.hid hz0
  have z7 : w0.cell? ⟨p, 7, none⟩ = some (.int .i64 x.first) := hL0.cell 7
  have z8 : w0.cell? ⟨p, 8, none⟩ = some (.slice sA ns.length sC) := hL0.cell 8
  have z9 : w0.cell? ⟨p, 9, none⟩ = some (.string s) := hL0.cell 9
  have hw0' := hw0.symm
  have cB0 := Lib.hid (base_any x p w0 z7 h0 h1)
  obtain ⟨B, hBB⟩ : ∃ B, B = baseOf x := ⟨_, rfl⟩
  obtain ⟨S, hSS⟩ : ∃ S, S = symOf ns (baseOf x) q := ⟨_, rfl⟩
  have hS := hSS
  unfold symOf at hS
  have cA := Lib.hid (fun W => Apply_any s q.kind q.at_ q.sym q.add S B W hs)
  rw [← hSS, ← hBB]
  rw [← hBB] at hS cB0
  have HBO := Lib.hid hBB.symm
  obtain ⟨E, hEE⟩ : ∃ E, E = applyErr s.size q.kind q.at_ q.add S B := ⟨_, rfl⟩
  obtain ⟨T, hTT⟩ : ∃ T, T = applyStr s q.kind q.at_ q.add S B := ⟨_, rfl⟩
  simp only [← hEE, ← hTT] at cA ⊢
  clear hSS hEE hTT hBB hw0 hb0 hL0 hr h
  by_cases t : q.sym < 0
  · rw [if_pos t] at hS
    subst hS
    have t' : decide (0 ≤ q.sym) = false := by simp; omega
    clear t hq
    have HZ := Lib.hid (show Below w0.heap.size w0 w0 ∧ w0.cell? ⟨p, 9, none⟩ = some (.string s) ∧ w0.cell? ⟨p, 7, none⟩ = some (.int .i64 x.first) ∧ w0.cell? ⟨w.heap.size, 0, none⟩ = some (.int .i64 q.kind) ∧ w0.cell? ⟨w.heap.size, 1, none⟩ = some (.int .i64 q.at_) ∧ w0.cell? ⟨w.heap.size, 2, none⟩ = some (.int .i64 q.sym) ∧ w0.cell? ⟨w.heap.size, 3, none⟩ = some (.int .i64 q.add) from ⟨Below.refl _ _, z9, z7, q0, q1, q2, q3⟩)
    have hwp : p < w0.heap.size := by omega
    have hwb : w.heap.size < w0.heap.size := by omega
    clear z7 z8 hz0
    go_enter Try.func21, Try.ntmps21
    go_wp2_with (go_at_call 36; (with_reducible refine (cB0.out).mono ?_); rintro e w' ⟨rfl, rfl⟩)
    obtain ⟨wz, hwz⟩ : ∃ wz, wz = w0 := ⟨_, rfl⟩
    subst hwz
    have HGZ := Lib.hid (grown_of_below H0.out (some p))
    have HLZ := HL0
    clear z9 q0 q1 q2 q3
    obtain ⟨hBZ, z9, z7, q0, q1, q2, q3⟩ := HZ.out
    have z7' := z7
    have HC0 := Lib.hid (show Below wz.heap.size wz wz ∧ wz.cell? ⟨p, 9, none⟩ = some (.string s) ∧ wz.cell? ⟨p, 7, none⟩ = some (.int .i64 x.first) ∧ wz.cell? ⟨w.heap.size, 0, none⟩ = some (.int .i64 q.kind) ∧ wz.cell? ⟨w.heap.size, 1, none⟩ = some (.int .i64 q.at_) ∧ wz.cell? ⟨w.heap.size, 2, none⟩ = some (.int .i64 q.sym) ∧ wz.cell? ⟨w.heap.size, 3, none⟩ = some (.int .i64 q.add) from ⟨Below.refl _ _, by assumption, by assumption, by assumption, by assumption, by assumption, by assumption⟩)
    have HCD := Lib.hid (show ∀ W' : World, (Below wz.heap.size wz W' ∧ W'.cell? ⟨p, 9, none⟩ = some (.string s) ∧ W'.cell? ⟨p, 7, none⟩ = some (.int .i64 x.first) ∧ W'.cell? ⟨w.heap.size, 0, none⟩ = some (.int .i64 q.kind) ∧ W'.cell? ⟨w.heap.size, 1, none⟩ = some (.int .i64 q.at_) ∧ W'.cell? ⟨w.heap.size, 2, none⟩ = some (.int .i64 q.sym) ∧ W'.cell? ⟨w.heap.size, 3, none⟩ = some (.int .i64 q.add)) → (Below wz.heap.size wz W'.drew ∧ W'.drew.cell? ⟨p, 9, none⟩ = some (.string s) ∧ W'.drew.cell? ⟨p, 7, none⟩ = some (.int .i64 x.first) ∧ W'.drew.cell? ⟨w.heap.size, 0, none⟩ = some (.int .i64 q.kind) ∧ W'.drew.cell? ⟨w.heap.size, 1, none⟩ = some (.int .i64 q.at_) ∧ W'.drew.cell? ⟨w.heap.size, 2, none⟩ = some (.int .i64 q.sym) ∧ W'.drew.cell? ⟨w.heap.size, 3, none⟩ = some (.int .i64 q.add)) from fun W' ⟨b, a0, a1, a2, a3, a4, a5⟩ => ⟨b.drew, a0, a1, a2, a3, a4, a5⟩)
    have HCS := Lib.hid (show ∀ W' W2 : World, (Below wz.heap.size wz W' ∧ W'.cell? ⟨p, 9, none⟩ = some (.string s) ∧ W'.cell? ⟨p, 7, none⟩ = some (.int .i64 x.first) ∧ W'.cell? ⟨w.heap.size, 0, none⟩ = some (.int .i64 q.kind) ∧ W'.cell? ⟨w.heap.size, 1, none⟩ = some (.int .i64 q.at_) ∧ W'.cell? ⟨w.heap.size, 2, none⟩ = some (.int .i64 q.sym) ∧ W'.cell? ⟨w.heap.size, 3, none⟩ = some (.int .i64 q.add)) → Below W'.heap.size W' W2 → (Below wz.heap.size wz W2 ∧ W2.cell? ⟨p, 9, none⟩ = some (.string s) ∧ W2.cell? ⟨p, 7, none⟩ = some (.int .i64 x.first) ∧ W2.cell? ⟨w.heap.size, 0, none⟩ = some (.int .i64 q.kind) ∧ W2.cell? ⟨w.heap.size, 1, none⟩ = some (.int .i64 q.at_) ∧ W2.cell? ⟨w.heap.size, 2, none⟩ = some (.int .i64 q.sym) ∧ W2.cell? ⟨w.heap.size, 3, none⟩ = some (.int .i64 q.add)) from fun W' W2 ⟨b, a0, a1, a2, a3, a4, a5⟩ hb => have s := b.size; ⟨b.trans (hb.mono s), (hb.cell (by first | omega | (simp; omega) | (simp only [block_of_add]; omega))).trans a0, (hb.cell (by first | omega | (simp; omega) | (simp only [block_of_add]; omega))).trans a1, (hb.cell (by first | omega | (simp; omega) | (simp only [block_of_add]; omega))).trans a2, (hb.cell (by first | omega | (simp; omega) | (simp only [block_of_add]; omega))).trans a3, (hb.cell (by first | omega | (simp; omega) | (simp only [block_of_add]; omega))).trans a4, (hb.cell (by first | omega | (simp; omega) | (simp only [block_of_add]; omega))).trans a5⟩)
    have HCA := Lib.hid (show ∀ (W' : World) (o : Obj), (Below wz.heap.size wz W' ∧ W'.cell? ⟨p, 9, none⟩ = some (.string s) ∧ W'.cell? ⟨p, 7, none⟩ = some (.int .i64 x.first) ∧ W'.cell? ⟨w.heap.size, 0, none⟩ = some (.int .i64 q.kind) ∧ W'.cell? ⟨w.heap.size, 1, none⟩ = some (.int .i64 q.at_) ∧ W'.cell? ⟨w.heap.size, 2, none⟩ = some (.int .i64 q.sym) ∧ W'.cell? ⟨w.heap.size, 3, none⟩ = some (.int .i64 q.add)) → (Below wz.heap.size wz (W'.alloc o) ∧ (W'.alloc o).cell? ⟨p, 9, none⟩ = some (.string s) ∧ (W'.alloc o).cell? ⟨p, 7, none⟩ = some (.int .i64 x.first) ∧ (W'.alloc o).cell? ⟨w.heap.size, 0, none⟩ = some (.int .i64 q.kind) ∧ (W'.alloc o).cell? ⟨w.heap.size, 1, none⟩ = some (.int .i64 q.at_) ∧ (W'.alloc o).cell? ⟨w.heap.size, 2, none⟩ = some (.int .i64 q.sym) ∧ (W'.alloc o).cell? ⟨w.heap.size, 3, none⟩ = some (.int .i64 q.add)) from fun W' o hc => HCS.out W' (W'.alloc o) hc ((Below.refl _ _).alloc (Nat.le_refl _) o))
    have HCX := Lib.hid (show ∀ (W' : World) (bX oX : Nat) (vX : Value), wz.heap.size ≤ bX → (Below wz.heap.size wz W' ∧ W'.cell? ⟨p, 9, none⟩ = some (.string s) ∧ W'.cell? ⟨p, 7, none⟩ = some (.int .i64 x.first) ∧ W'.cell? ⟨w.heap.size, 0, none⟩ = some (.int .i64 q.kind) ∧ W'.cell? ⟨w.heap.size, 1, none⟩ = some (.int .i64 q.at_) ∧ W'.cell? ⟨w.heap.size, 2, none⟩ = some (.int .i64 q.sym) ∧ W'.cell? ⟨w.heap.size, 3, none⟩ = some (.int .i64 q.add)) → (Below wz.heap.size wz (W'.setCell ⟨bX, oX, none⟩ vX) ∧ (W'.setCell ⟨bX, oX, none⟩ vX).cell? ⟨p, 9, none⟩ = some (.string s) ∧ (W'.setCell ⟨bX, oX, none⟩ vX).cell? ⟨p, 7, none⟩ = some (.int .i64 x.first) ∧ (W'.setCell ⟨bX, oX, none⟩ vX).cell? ⟨w.heap.size, 0, none⟩ = some (.int .i64 q.kind) ∧ (W'.setCell ⟨bX, oX, none⟩ vX).cell? ⟨w.heap.size, 1, none⟩ = some (.int .i64 q.at_) ∧ (W'.setCell ⟨bX, oX, none⟩ vX).cell? ⟨w.heap.size, 2, none⟩ = some (.int .i64 q.sym) ∧ (W'.setCell ⟨bX, oX, none⟩ vX).cell? ⟨w.heap.size, 3, none⟩ = some (.int .i64 q.add)) from fun W' bX oX vX hbX ⟨b, a0, a1, a2, a3, a4, a5⟩ => ⟨b.setCell (p := ⟨bX, oX, none⟩) hbX vX, (((Below.refl _ _).setCell (p := ⟨bX, oX, none⟩) hbX vX).cell (by first | omega | (simp; omega) | (simp only [block_of_add]; omega))).trans a0, (((Below.refl _ _).setCell (p := ⟨bX, oX, none⟩) hbX vX).cell (by first | omega | (simp; omega) | (simp only [block_of_add]; omega))).trans a1, (((Below.refl _ _).setCell (p := ⟨bX, oX, none⟩) hbX vX).cell (by first | omega | (simp; omega) | (simp only [block_of_add]; omega))).trans a2, (((Below.refl _ _).setCell (p := ⟨bX, oX, none⟩) hbX vX).cell (by first | omega | (simp; omega) | (simp only [block_of_add]; omega))).trans a3, (((Below.refl _ _).setCell (p := ⟨bX, oX, none⟩) hbX vX).cell (by first | omega | (simp; omega) | (simp only [block_of_add]; omega))).trans a4, (((Below.refl _ _).setCell (p := ⟨bX, oX, none⟩) hbX vX).cell (by first | omega | (simp; omega) | (simp only [block_of_add]; omega))).trans a5⟩)
    have HCL := Lib.hid (show ∀ W' : World, (Below wz.heap.size wz W' ∧ W'.cell? ⟨p, 9, none⟩ = some (.string s) ∧ W'.cell? ⟨p, 7, none⟩ = some (.int .i64 x.first) ∧ W'.cell? ⟨w.heap.size, 0, none⟩ = some (.int .i64 q.kind) ∧ W'.cell? ⟨w.heap.size, 1, none⟩ = some (.int .i64 q.at_) ∧ W'.cell? ⟨w.heap.size, 2, none⟩ = some (.int .i64 q.sym) ∧ W'.cell? ⟨w.heap.size, 3, none⟩ = some (.int .i64 q.add)) → Below wz.heap.size wz W' from fun W' hc => hc.1)
    have cB := Lib.hid (fun W (h : W.cell? ⟨p, 7, none⟩ = some (.int .i64 x.first)) => base_any x p W h h0 h1)
    rw [HBO.out] at cB
    clear z9 z7 q0 q1 q2 q3 z7' hBZ
    go_region_held3 (fun W' => Below wz.heap.size wz W' ∧ W'.cell? ⟨p, 9, none⟩ = some (.string s) ∧ W'.cell? ⟨p, 7, none⟩ = some (.int .i64 x.first) ∧ W'.cell? ⟨w.heap.size, 0, none⟩ = some (.int .i64 q.kind) ∧ W'.cell? ⟨w.heap.size, 1, none⟩ = some (.int .i64 q.at_) ∧ W'.cell? ⟨w.heap.size, 2, none⟩ = some (.int .i64 q.sym) ∧ W'.cell? ⟨w.heap.size, 3, none⟩ = some (.int .i64 q.add)) (first | exact HC0.out | exact HCD.out _ HC0.out | exact HCS.out _ _ (by assumption) (by assumption) | exact HCS.out _ _ HC0.out (by assumption) | exact HCS.out _ _ (HCD.out _ HC0.out) (by assumption) | exact HCS.out _ _ (HCD.out _ (by assumption)) (by assumption) | exact HCD.out _ (by assumption) | exact HCA.out _ _ (by assumption) | exact HCA.out _ _ HC0.out | exact HCA.out _ _ (HCD.out _ HC0.out) | exact HCD.out _ (HCA.out _ _ (by assumption)) | exact HCA.out _ _ (HCS.out _ _ HC0.out (by assumption)) | exact HCA.out _ _ (HCS.out _ _ (HCD.out _ HC0.out) (by assumption)) | exact HCX.out _ _ _ _ (Nat.le_refl _) (by assumption) | exact HCX.out _ _ _ _ (Nat.le_refl _) (HCS.out _ _ (HCA.out _ _ HC0.out) (by assumption)) | exact HCX.out _ _ _ _ (Nat.le_refl _) (HCS.out _ _ (HCD.out _ (HCA.out _ _ HC0.out)) (by assumption)) | assumption) (first | (go_at_call 36; (with_reducible refine (cB.out _ ?_).mono ?_); (first | exact HC0.out.2.2.1 | exact (HCD.out _ HC0.out).2.2.1 | exact (And.right (And.right (by assumption))).1); rintro e w' ⟨rfl, rfl⟩) | (go_at_call 37; (with_reducible refine (cA.out _).mono ?_); rintro e w3 ⟨rfl, hb3⟩))
    have hB := HCL.out _ (by assumption)
    have HBZ := Lib.hid hB
    have hLq := Lib.hid (HLZ.out.kept hB)
    have z9 : w3.cell? ⟨p, 9, none⟩ = some (.string s) := hLq.out.cell 9
    have z9f := hLq.out.frozen 9
    clear hB
    go_wp2_with fail
    go_ret
    exact ⟨rfl, hLq.out.put _, HGZ.out.trans ((grown_of_below HBZ.out (some p)).trans (grown_setL _ p 9 _))⟩
  · rw [if_neg t] at hS
    obtain ⟨m, hm⟩ : ∃ m : Nat, q.sym = m := ⟨q.sym.toNat, by omega⟩
    have hml : m < ns.length := by omega
    have hml' : (m : Int) < ns.length := by omega
    rw [hm] at hS q2 t hw0'
    have t' : decide (0 ≤ (m : Int)) = true := by simp
    rw [Int.toNat_natCast, List.getD_eq_getElem?_getD, List.getElem?_eq_getElem hml, Option.getD_some] at hS
    obtain ⟨ad, rfl, hab, i0⟩ := intl_at HR0.out (Below.refl _ _) m hml
    rw [← hS] at i0
    rw [hm] at cA ⊢
    have hwp : p < w0.heap.size := by omega
    have hwb : w.heap.size < w0.heap.size := by omega
    have HQ := Lib.hid (And.intro z9 (And.intro z7 (And.intro q0 (And.intro q1 (And.intro q2 q3)))))
    clear z7 z9 hz0 hS hq t hm q0 q1 q3
    go_enter Try.func21, Try.ntmps21
    go_wp2_with (go_at_call 36; (with_reducible refine (cB0.out).mono ?_); rintro e w' ⟨rfl, rfl⟩)
    go_quiet (fail)
    go_wp2_with fail
    obtain ⟨wz, hwz⟩ : ∃ wz, wz = w0.drewN nq := ⟨_, rfl⟩
    rw [← hwz]
    have HGZ := Lib.hid (show w.grownBy wz (some p) from hwz ▸ (grown_of_below (below_drewN H0.out nq) (some p)))
    have HLZ := Lib.hid (show Lk wz p x (some ad) ns.length sC s from hwz ▸ HL0.out)
    have HZ := Lib.hid (show Below wz.heap.size wz wz ∧ wz.cell? ⟨p, 9, none⟩ = some (.string s) ∧ wz.cell? ⟨p, 7, none⟩ = some (.int .i64 x.first) ∧ wz.cell? ⟨w.heap.size, 0, none⟩ = some (.int .i64 q.kind) ∧ wz.cell? ⟨w.heap.size, 1, none⟩ = some (.int .i64 q.at_) ∧ wz.cell? ⟨w.heap.size, 2, none⟩ = some (.int .i64 m) ∧ wz.cell? ⟨w.heap.size, 3, none⟩ = some (.int .i64 q.add) from ⟨Below.refl _ _, by subst hwz; exact HQ.out⟩)
    have hwp' : p < wz.heap.size := by rw [hwz]; exact hwp
    have hwb' : w.heap.size < wz.heap.size := by rw [hwz]; exact hwb
    clear hwz i0 z8 q2
    obtain ⟨hBZ, z9, z7, q0, q1, q2, q3⟩ := HZ.out
    have z7' := z7
    have HC0 := Lib.hid (show Below wz.heap.size wz wz ∧ wz.cell? ⟨p, 9, none⟩ = some (.string s) ∧ wz.cell? ⟨p, 7, none⟩ = some (.int .i64 x.first) ∧ wz.cell? ⟨w.heap.size, 0, none⟩ = some (.int .i64 q.kind) ∧ wz.cell? ⟨w.heap.size, 1, none⟩ = some (.int .i64 q.at_) ∧ wz.cell? ⟨w.heap.size, 2, none⟩ = some (.int .i64 m) ∧ wz.cell? ⟨w.heap.size, 3, none⟩ = some (.int .i64 q.add) from ⟨Below.refl _ _, by assumption, by assumption, by assumption, by assumption, by assumption, by assumption⟩)
    have HCD := Lib.hid (show ∀ W' : World, (Below wz.heap.size wz W' ∧ W'.cell? ⟨p, 9, none⟩ = some (.string s) ∧ W'.cell? ⟨p, 7, none⟩ = some (.int .i64 x.first) ∧ W'.cell? ⟨w.heap.size, 0, none⟩ = some (.int .i64 q.kind) ∧ W'.cell? ⟨w.heap.size, 1, none⟩ = some (.int .i64 q.at_) ∧ W'.cell? ⟨w.heap.size, 2, none⟩ = some (.int .i64 m) ∧ W'.cell? ⟨w.heap.size, 3, none⟩ = some (.int .i64 q.add)) → (Below wz.heap.size wz W'.drew ∧ W'.drew.cell? ⟨p, 9, none⟩ = some (.string s) ∧ W'.drew.cell? ⟨p, 7, none⟩ = some (.int .i64 x.first) ∧ W'.drew.cell? ⟨w.heap.size, 0, none⟩ = some (.int .i64 q.kind) ∧ W'.drew.cell? ⟨w.heap.size, 1, none⟩ = some (.int .i64 q.at_) ∧ W'.drew.cell? ⟨w.heap.size, 2, none⟩ = some (.int .i64 m) ∧ W'.drew.cell? ⟨w.heap.size, 3, none⟩ = some (.int .i64 q.add)) from fun W' ⟨b, a0, a1, a2, a3, a4, a5⟩ => ⟨b.drew, a0, a1, a2, a3, a4, a5⟩)
    have HCS := Lib.hid (show ∀ W' W2 : World, (Below wz.heap.size wz W' ∧ W'.cell? ⟨p, 9, none⟩ = some (.string s) ∧ W'.cell? ⟨p, 7, none⟩ = some (.int .i64 x.first) ∧ W'.cell? ⟨w.heap.size, 0, none⟩ = some (.int .i64 q.kind) ∧ W'.cell? ⟨w.heap.size, 1, none⟩ = some (.int .i64 q.at_) ∧ W'.cell? ⟨w.heap.size, 2, none⟩ = some (.int .i64 m) ∧ W'.cell? ⟨w.heap.size, 3, none⟩ = some (.int .i64 q.add)) → Below W'.heap.size W' W2 → (Below wz.heap.size wz W2 ∧ W2.cell? ⟨p, 9, none⟩ = some (.string s) ∧ W2.cell? ⟨p, 7, none⟩ = some (.int .i64 x.first) ∧ W2.cell? ⟨w.heap.size, 0, none⟩ = some (.int .i64 q.kind) ∧ W2.cell? ⟨w.heap.size, 1, none⟩ = some (.int .i64 q.at_) ∧ W2.cell? ⟨w.heap.size, 2, none⟩ = some (.int .i64 m) ∧ W2.cell? ⟨w.heap.size, 3, none⟩ = some (.int .i64 q.add)) from fun W' W2 ⟨b, a0, a1, a2, a3, a4, a5⟩ hb => have s := b.size; ⟨b.trans (hb.mono s), (hb.cell (by first | omega | (simp; omega) | (simp only [block_of_add]; omega))).trans a0, (hb.cell (by first | omega | (simp; omega) | (simp only [block_of_add]; omega))).trans a1, (hb.cell (by first | omega | (simp; omega) | (simp only [block_of_add]; omega))).trans a2, (hb.cell (by first | omega | (simp; omega) | (simp only [block_of_add]; omega))).trans a3, (hb.cell (by first | omega | (simp; omega) | (simp only [block_of_add]; omega))).trans a4, (hb.cell (by first | omega | (simp; omega) | (simp only [block_of_add]; omega))).trans a5⟩)
    have HCA := Lib.hid (show ∀ (W' : World) (o : Obj), (Below wz.heap.size wz W' ∧ W'.cell? ⟨p, 9, none⟩ = some (.string s) ∧ W'.cell? ⟨p, 7, none⟩ = some (.int .i64 x.first) ∧ W'.cell? ⟨w.heap.size, 0, none⟩ = some (.int .i64 q.kind) ∧ W'.cell? ⟨w.heap.size, 1, none⟩ = some (.int .i64 q.at_) ∧ W'.cell? ⟨w.heap.size, 2, none⟩ = some (.int .i64 m) ∧ W'.cell? ⟨w.heap.size, 3, none⟩ = some (.int .i64 q.add)) → (Below wz.heap.size wz (W'.alloc o) ∧ (W'.alloc o).cell? ⟨p, 9, none⟩ = some (.string s) ∧ (W'.alloc o).cell? ⟨p, 7, none⟩ = some (.int .i64 x.first) ∧ (W'.alloc o).cell? ⟨w.heap.size, 0, none⟩ = some (.int .i64 q.kind) ∧ (W'.alloc o).cell? ⟨w.heap.size, 1, none⟩ = some (.int .i64 q.at_) ∧ (W'.alloc o).cell? ⟨w.heap.size, 2, none⟩ = some (.int .i64 m) ∧ (W'.alloc o).cell? ⟨w.heap.size, 3, none⟩ = some (.int .i64 q.add)) from fun W' o hc => HCS.out W' (W'.alloc o) hc ((Below.refl _ _).alloc (Nat.le_refl _) o))
    have HCX := Lib.hid (show ∀ (W' : World) (bX oX : Nat) (vX : Value), wz.heap.size ≤ bX → (Below wz.heap.size wz W' ∧ W'.cell? ⟨p, 9, none⟩ = some (.string s) ∧ W'.cell? ⟨p, 7, none⟩ = some (.int .i64 x.first) ∧ W'.cell? ⟨w.heap.size, 0, none⟩ = some (.int .i64 q.kind) ∧ W'.cell? ⟨w.heap.size, 1, none⟩ = some (.int .i64 q.at_) ∧ W'.cell? ⟨w.heap.size, 2, none⟩ = some (.int .i64 m) ∧ W'.cell? ⟨w.heap.size, 3, none⟩ = some (.int .i64 q.add)) → (Below wz.heap.size wz (W'.setCell ⟨bX, oX, none⟩ vX) ∧ (W'.setCell ⟨bX, oX, none⟩ vX).cell? ⟨p, 9, none⟩ = some (.string s) ∧ (W'.setCell ⟨bX, oX, none⟩ vX).cell? ⟨p, 7, none⟩ = some (.int .i64 x.first) ∧ (W'.setCell ⟨bX, oX, none⟩ vX).cell? ⟨w.heap.size, 0, none⟩ = some (.int .i64 q.kind) ∧ (W'.setCell ⟨bX, oX, none⟩ vX).cell? ⟨w.heap.size, 1, none⟩ = some (.int .i64 q.at_) ∧ (W'.setCell ⟨bX, oX, none⟩ vX).cell? ⟨w.heap.size, 2, none⟩ = some (.int .i64 m) ∧ (W'.setCell ⟨bX, oX, none⟩ vX).cell? ⟨w.heap.size, 3, none⟩ = some (.int .i64 q.add)) from fun W' bX oX vX hbX ⟨b, a0, a1, a2, a3, a4, a5⟩ => ⟨b.setCell (p := ⟨bX, oX, none⟩) hbX vX, (((Below.refl _ _).setCell (p := ⟨bX, oX, none⟩) hbX vX).cell (by first | omega | (simp; omega) | (simp only [block_of_add]; omega))).trans a0, (((Below.refl _ _).setCell (p := ⟨bX, oX, none⟩) hbX vX).cell (by first | omega | (simp; omega) | (simp only [block_of_add]; omega))).trans a1, (((Below.refl _ _).setCell (p := ⟨bX, oX, none⟩) hbX vX).cell (by first | omega | (simp; omega) | (simp only [block_of_add]; omega))).trans a2, (((Below.refl _ _).setCell (p := ⟨bX, oX, none⟩) hbX vX).cell (by first | omega | (simp; omega) | (simp only [block_of_add]; omega))).trans a3, (((Below.refl _ _).setCell (p := ⟨bX, oX, none⟩) hbX vX).cell (by first | omega | (simp; omega) | (simp only [block_of_add]; omega))).trans a4, (((Below.refl _ _).setCell (p := ⟨bX, oX, none⟩) hbX vX).cell (by first | omega | (simp; omega) | (simp only [block_of_add]; omega))).trans a5⟩)
    have HCL := Lib.hid (show ∀ W' : World, (Below wz.heap.size wz W' ∧ W'.cell? ⟨p, 9, none⟩ = some (.string s) ∧ W'.cell? ⟨p, 7, none⟩ = some (.int .i64 x.first) ∧ W'.cell? ⟨w.heap.size, 0, none⟩ = some (.int .i64 q.kind) ∧ W'.cell? ⟨w.heap.size, 1, none⟩ = some (.int .i64 q.at_) ∧ W'.cell? ⟨w.heap.size, 2, none⟩ = some (.int .i64 m) ∧ W'.cell? ⟨w.heap.size, 3, none⟩ = some (.int .i64 q.add)) → Below wz.heap.size wz W' from fun W' hc => hc.1)
    have cB := Lib.hid (fun W (h : W.cell? ⟨p, 7, none⟩ = some (.int .i64 x.first)) => base_any x p W h h0 h1)
    rw [HBO.out] at cB
    clear z9 z7 q0 q1 q2 q3 z7' hBZ
    go_region_held3 (fun W' => Below wz.heap.size wz W' ∧ W'.cell? ⟨p, 9, none⟩ = some (.string s) ∧ W'.cell? ⟨p, 7, none⟩ = some (.int .i64 x.first) ∧ W'.cell? ⟨w.heap.size, 0, none⟩ = some (.int .i64 q.kind) ∧ W'.cell? ⟨w.heap.size, 1, none⟩ = some (.int .i64 q.at_) ∧ W'.cell? ⟨w.heap.size, 2, none⟩ = some (.int .i64 m) ∧ W'.cell? ⟨w.heap.size, 3, none⟩ = some (.int .i64 q.add)) (first | exact HC0.out | exact HCD.out _ HC0.out | exact HCS.out _ _ (by assumption) (by assumption) | exact HCS.out _ _ HC0.out (by assumption) | exact HCS.out _ _ (HCD.out _ HC0.out) (by assumption) | exact HCS.out _ _ (HCD.out _ (by assumption)) (by assumption) | exact HCD.out _ (by assumption) | exact HCA.out _ _ (by assumption) | exact HCA.out _ _ HC0.out | exact HCA.out _ _ (HCD.out _ HC0.out) | exact HCD.out _ (HCA.out _ _ (by assumption)) | exact HCA.out _ _ (HCS.out _ _ HC0.out (by assumption)) | exact HCA.out _ _ (HCS.out _ _ (HCD.out _ HC0.out) (by assumption)) | exact HCX.out _ _ _ _ (Nat.le_refl _) (by assumption) | exact HCX.out _ _ _ _ (Nat.le_refl _) (HCS.out _ _ (HCA.out _ _ HC0.out) (by assumption)) | exact HCX.out _ _ _ _ (Nat.le_refl _) (HCS.out _ _ (HCD.out _ (HCA.out _ _ HC0.out)) (by assumption)) | assumption) (first | (go_at_call 36; (with_reducible refine (cB.out _ ?_).mono ?_); (first | exact HC0.out.2.2.1 | exact (HCD.out _ HC0.out).2.2.1 | exact (And.right (And.right (by assumption))).1); rintro e w' ⟨rfl, rfl⟩) | (go_at_call 37; (with_reducible refine (cA.out _).mono ?_); rintro e w3 ⟨rfl, hb3⟩))
    have hB := HCL.out _ (by assumption)
    have HBZ := Lib.hid hB
    have hLq := Lib.hid (HLZ.out.kept hB)
    have z9 : w3.cell? ⟨p, 9, none⟩ = some (.string s) := hLq.out.cell 9
    have z9f := hLq.out.frozen 9
    clear hB
    go_wp2_with fail
    go_ret
    exact ⟨rfl, hLq.out.put _, HGZ.out.trans ((grown_of_below HBZ.out (some p)).trans (grown_setL _ p 9 _))⟩

end Go.Proofs.Ytjnfemcfohflnaa
