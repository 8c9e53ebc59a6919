import Derived.Test.YtjnfemcfohflnaaLImageW
import Derived.Test.YtjnfemcfohflnaaBuildW
/- Bytes as they lie (chapter G): link.Image, Area. -/
namespace Go.Proofs.Ytjnfemcfohflnaa
open Go.RowKit
open Gs (Tx)

theorem plc_link {k : Krn} {l : List Plc} (h : linkErr k l = 0) : ∀ x ∈ l, modErr x.m = 0 ∧ 0 ≤ x.first ∧ x.first ≤ 16 := fun x hx => by
  obtain ⟨_, h2, _, _⟩ := linkErr_ok h
  obtain ⟨_, hall, _⟩ := reg_row h2
  obtain ⟨e1, e2⟩ := hall x hx
  have := many_ok e1
  simp only [regQ, Bool.and_eq_true, decide_eq_true_eq] at e2
  exact ⟨e1, by omega, by omega⟩
set_option maxHeartbeats 4000000 in
set_option maxRecDepth 100000 in
theorem Image_any (k : Krn) (A : Option Addr) (c : Nat) (l : List Plc) (nm : ByteArray) (w : World) (hk : k.ok w) (h : PlsOk w A l) :
    Calls Try.prog 6 #[k.v, .slice A l.length c, .string nm] w fun e w' => e = .returned (.tuple #[.string (bs (imageT k l nm)), .int .i64 (imageErr k l nm)]) ∧ Below w.heap.size w w' := by
  obtain ⟨w0, hw0⟩ : ∃ w0, w0 = w.alloc (.cells #[.int .i64 k.major, .int .i64 k.minor, .slice k.eA k.ex.length k.eC] 24) := ⟨_, rfl⟩
  obtain ⟨g0, g1, g2, hz, hb0⟩ := box3 hw0
  have hz0 : w.heap.size < w0.heap.size := by omega
  have H0 := Lib.hid hb0
  have hw0' := hw0.symm
  have c1 := Lib.hid (LCheck_any k A c l w0 (hk.below hb0) (h.below hb0))
  have c2 := Lib.hid (fun W (hb : Below w.heap.size w W) => Place_any A c l nm W (h.row.below hb) h.len)
  have hlen := h.len
  unfold big at hlen
  have HP := Lib.hid h
  have HK := Lib.hid hk
  have HPL := Lib.hid (fun (e : linkErr k l = 0) => (linkErr_ok e).2.2.2)
  have HEA := Lib.hid (fun (e : linkErr k l = 0) => plc_link e)
  obtain ⟨T, hT⟩ : ∃ T, T = imageT k l nm := ⟨_, rfl⟩
  obtain ⟨E, hE⟩ : ∃ E, E = imageErr k l nm := ⟨_, rfl⟩
  rw [← hT, ← hE]
  unfold imageT at hT
  unfold imageErr at hE
  obtain ⟨L, hL⟩ : ∃ L, L = linkErr k l := ⟨_, rfl⟩
  simp only [← hL] at c1 HPL HEA hT hE
  clear hw0 hb0 hz hL h hk
  by_cases t1 : L = 0
  · subst t1
    rw [if_neg (by omega)] at hT hE
    rcases find_cases (named nm) l with ⟨e1, e2⟩ | ⟨j, hj, e1, e2⟩
    · rw [e2] at hT hE
      simp only at hT hE
      rw [e1] at c2
      subst hT hE
      clear e1 e2
      go_enter Try.func6, Try.ntmps6
      go_wp2_with (first | (go_at_call 8; (with_reducible refine (c1.out).mono ?_); rintro e w1 ⟨rfl, hb1⟩) | (go_at_call 16; (with_reducible refine (c2.out _ (H0.out.trans (hb1.mono (by omega)))).mono ?_); rintro e w2 ⟨rfl, hb2⟩))
      go_ret2
      exact ⟨rfl, (H0.out.trans (hb1.mono (by omega))).trans (hb2.mono (by have := hb1.size; omega))⟩
    · rw [e2] at hT hE
      simp only at hT hE
      rw [e1] at c2
      have hj' : (j : Int) < l.length := by omega
      obtain ⟨q1, q2, q3⟩ := HEA.out rfl l[j] (List.getElem_mem _)
      have cI := Lib.hid (fun W (hb : Below w.heap.size w W) => image_any k A c l l[j] W (HK.out.below hb) (HP.out.below hb) ((HP.out.each l[j] (List.getElem_mem _)).below hb) (HPL.out rfl) q1 q2 q3)
      rw [← hT, ← hE] at cI
      have KJ := Lib.hid (fun W (hbW : Below w.heap.size w W) => plc_at HP.out.row hbW j hj)
      obtain ⟨ad, rfl, hab, _⟩ := plc_at HP.out.row (Below.refl _ _) j hj
      obtain ⟨y, hy⟩ : ∃ y, y = l[j]'hj := ⟨_, rfl⟩
      simp only [← hy] at cI KJ
      clear e1 e2 hT hE q1 q2 q3 hy
      go_enter Try.func6, Try.ntmps6
      go_wp2_with (first
        | (go_at_call 8; (with_reducible refine (c1.out).mono ?_); rintro e w1 ⟨rfl, hb1⟩
           have HB1 := Lib.hid (H0.out.trans (hb1.mono (by omega)))
           have HX1 := Lib.hid hb1
           clear hb1)
        | (go_at_call 16; (with_reducible refine (c2.out _ HB1.out).mono ?_); rintro e w2 ⟨rfl, hb2⟩
           have HB2 := Lib.hid (HB1.out.trans (hb2.mono HB1.out.size))
           have hb3 := HX1.out.trans (hb2.mono HX1.out.size)
           obtain ⟨_, ea, _, m0, m1, m2, m3, m4, m5, m6, m7⟩ := KJ.out _ HB2.out
           obtain rfl := Option.some.inj ea
           have k0 := (hb3.cell (p := ⟨w.heap.size, 0, none⟩) hz0).trans g0
           have k1 := (hb3.cell (p := ⟨w.heap.size, 1, none⟩) hz0).trans g1
           have k2 := (hb3.cell (p := ⟨w.heap.size, 2, none⟩) hz0).trans g2
           have hz2 : w.heap.size < w2.heap.size := (by have := hb3.size; omega)
           clear hb2 hb3))
      have hab2 : (ad.add (j * 8)).block < w2.heap.size := by rw [block_of_add]; omega
      have HC0 := Lib.hid (show Below w2.heap.size w2 w2 ∧ w2.cell? ⟨w.heap.size, 0, none⟩ = some (.int .i64 k.major) ∧ w2.cell? ⟨w.heap.size, 1, none⟩ = some (.int .i64 k.minor) ∧ w2.cell? ⟨w.heap.size, 2, none⟩ = some (.slice k.eA k.ex.length k.eC) ∧ w2.cell? (ad.add (j * 8)) = some (.string y.m.name) ∧ w2.cell? ⟨(ad.add (j * 8)).block, (ad.add (j * 8)).off + 1, none⟩ = some (.int .i64 y.m.major) ∧ w2.cell? ⟨(ad.add (j * 8)).block, (ad.add (j * 8)).off + 2, none⟩ = some (.int .i64 y.m.minor) ∧ w2.cell? ⟨(ad.add (j * 8)).block, (ad.add (j * 8)).off + 3, none⟩ = some (.string y.m.text) ∧ w2.cell? ⟨(ad.add (j * 8)).block, (ad.add (j * 8)).off + 4, none⟩ = some (.slice y.m.eA y.m.ex.length y.m.eC) ∧ w2.cell? ⟨(ad.add (j * 8)).block, (ad.add (j * 8)).off + 5, none⟩ = some (.slice y.m.iA y.m.im.length y.m.iC) ∧ w2.cell? ⟨(ad.add (j * 8)).block, (ad.add (j * 8)).off + 6, none⟩ = some (.slice y.m.pA y.m.pa.length y.m.pC) ∧ w2.cell? ⟨(ad.add (j * 8)).block, (ad.add (j * 8)).off + 7, none⟩ = some (.int .i64 y.first) from ⟨Below.refl _ _, by assumption, by assumption, by assumption, by assumption, by assumption, by assumption, by assumption, by assumption, by assumption, by assumption, by assumption⟩)
      have HCD := Lib.hid (show ∀ W' : World, (Below w2.heap.size w2 W' ∧ W'.cell? ⟨w.heap.size, 0, none⟩ = some (.int .i64 k.major) ∧ W'.cell? ⟨w.heap.size, 1, none⟩ = some (.int .i64 k.minor) ∧ W'.cell? ⟨w.heap.size, 2, none⟩ = some (.slice k.eA k.ex.length k.eC) ∧ W'.cell? (ad.add (j * 8)) = some (.string y.m.name) ∧ W'.cell? ⟨(ad.add (j * 8)).block, (ad.add (j * 8)).off + 1, none⟩ = some (.int .i64 y.m.major) ∧ W'.cell? ⟨(ad.add (j * 8)).block, (ad.add (j * 8)).off + 2, none⟩ = some (.int .i64 y.m.minor) ∧ W'.cell? ⟨(ad.add (j * 8)).block, (ad.add (j * 8)).off + 3, none⟩ = some (.string y.m.text) ∧ W'.cell? ⟨(ad.add (j * 8)).block, (ad.add (j * 8)).off + 4, none⟩ = some (.slice y.m.eA y.m.ex.length y.m.eC) ∧ W'.cell? ⟨(ad.add (j * 8)).block, (ad.add (j * 8)).off + 5, none⟩ = some (.slice y.m.iA y.m.im.length y.m.iC) ∧ W'.cell? ⟨(ad.add (j * 8)).block, (ad.add (j * 8)).off + 6, none⟩ = some (.slice y.m.pA y.m.pa.length y.m.pC) ∧ W'.cell? ⟨(ad.add (j * 8)).block, (ad.add (j * 8)).off + 7, none⟩ = some (.int .i64 y.first)) → (Below w2.heap.size w2 W'.drew ∧ W'.drew.cell? ⟨w.heap.size, 0, none⟩ = some (.int .i64 k.major) ∧ W'.drew.cell? ⟨w.heap.size, 1, none⟩ = some (.int .i64 k.minor) ∧ W'.drew.cell? ⟨w.heap.size, 2, none⟩ = some (.slice k.eA k.ex.length k.eC) ∧ W'.drew.cell? (ad.add (j * 8)) = some (.string y.m.name) ∧ W'.drew.cell? ⟨(ad.add (j * 8)).block, (ad.add (j * 8)).off + 1, none⟩ = some (.int .i64 y.m.major) ∧ W'.drew.cell? ⟨(ad.add (j * 8)).block, (ad.add (j * 8)).off + 2, none⟩ = some (.int .i64 y.m.minor) ∧ W'.drew.cell? ⟨(ad.add (j * 8)).block, (ad.add (j * 8)).off + 3, none⟩ = some (.string y.m.text) ∧ W'.drew.cell? ⟨(ad.add (j * 8)).block, (ad.add (j * 8)).off + 4, none⟩ = some (.slice y.m.eA y.m.ex.length y.m.eC) ∧ W'.drew.cell? ⟨(ad.add (j * 8)).block, (ad.add (j * 8)).off + 5, none⟩ = some (.slice y.m.iA y.m.im.length y.m.iC) ∧ W'.drew.cell? ⟨(ad.add (j * 8)).block, (ad.add (j * 8)).off + 6, none⟩ = some (.slice y.m.pA y.m.pa.length y.m.pC) ∧ W'.drew.cell? ⟨(ad.add (j * 8)).block, (ad.add (j * 8)).off + 7, none⟩ = some (.int .i64 y.first)) from fun W' ⟨b, a0, a1, a2, a3, a4, a5, a6, a7, a8, a9, a10⟩ => ⟨b.drew, a0, a1, a2, a3, a4, a5, a6, a7, a8, a9, a10⟩)
      have HCS := Lib.hid (show ∀ W' W2 : World, (Below w2.heap.size w2 W' ∧ W'.cell? ⟨w.heap.size, 0, none⟩ = some (.int .i64 k.major) ∧ W'.cell? ⟨w.heap.size, 1, none⟩ = some (.int .i64 k.minor) ∧ W'.cell? ⟨w.heap.size, 2, none⟩ = some (.slice k.eA k.ex.length k.eC) ∧ W'.cell? (ad.add (j * 8)) = some (.string y.m.name) ∧ W'.cell? ⟨(ad.add (j * 8)).block, (ad.add (j * 8)).off + 1, none⟩ = some (.int .i64 y.m.major) ∧ W'.cell? ⟨(ad.add (j * 8)).block, (ad.add (j * 8)).off + 2, none⟩ = some (.int .i64 y.m.minor) ∧ W'.cell? ⟨(ad.add (j * 8)).block, (ad.add (j * 8)).off + 3, none⟩ = some (.string y.m.text) ∧ W'.cell? ⟨(ad.add (j * 8)).block, (ad.add (j * 8)).off + 4, none⟩ = some (.slice y.m.eA y.m.ex.length y.m.eC) ∧ W'.cell? ⟨(ad.add (j * 8)).block, (ad.add (j * 8)).off + 5, none⟩ = some (.slice y.m.iA y.m.im.length y.m.iC) ∧ W'.cell? ⟨(ad.add (j * 8)).block, (ad.add (j * 8)).off + 6, none⟩ = some (.slice y.m.pA y.m.pa.length y.m.pC) ∧ W'.cell? ⟨(ad.add (j * 8)).block, (ad.add (j * 8)).off + 7, none⟩ = some (.int .i64 y.first)) → Below W'.heap.size W' W2 → (Below w2.heap.size w2 W2 ∧ W2.cell? ⟨w.heap.size, 0, none⟩ = some (.int .i64 k.major) ∧ W2.cell? ⟨w.heap.size, 1, none⟩ = some (.int .i64 k.minor) ∧ W2.cell? ⟨w.heap.size, 2, none⟩ = some (.slice k.eA k.ex.length k.eC) ∧ W2.cell? (ad.add (j * 8)) = some (.string y.m.name) ∧ W2.cell? ⟨(ad.add (j * 8)).block, (ad.add (j * 8)).off + 1, none⟩ = some (.int .i64 y.m.major) ∧ W2.cell? ⟨(ad.add (j * 8)).block, (ad.add (j * 8)).off + 2, none⟩ = some (.int .i64 y.m.minor) ∧ W2.cell? ⟨(ad.add (j * 8)).block, (ad.add (j * 8)).off + 3, none⟩ = some (.string y.m.text) ∧ W2.cell? ⟨(ad.add (j * 8)).block, (ad.add (j * 8)).off + 4, none⟩ = some (.slice y.m.eA y.m.ex.length y.m.eC) ∧ W2.cell? ⟨(ad.add (j * 8)).block, (ad.add (j * 8)).off + 5, none⟩ = some (.slice y.m.iA y.m.im.length y.m.iC) ∧ W2.cell? ⟨(ad.add (j * 8)).block, (ad.add (j * 8)).off + 6, none⟩ = some (.slice y.m.pA y.m.pa.length y.m.pC) ∧ W2.cell? ⟨(ad.add (j * 8)).block, (ad.add (j * 8)).off + 7, none⟩ = some (.int .i64 y.first)) from fun W' W2 ⟨b, a0, a1, a2, a3, a4, a5, a6, a7, a8, a9, a10⟩ hb => have s := b.size; ⟨b.trans (hb.mono s), (hb.cell (by first | omega | (simp; omega) | (simp only [block_of_add]; omega))).trans a0, (hb.cell (by first | omega | (simp; omega) | (simp only [block_of_add]; omega))).trans a1, (hb.cell (by first | omega | (simp; omega) | (simp only [block_of_add]; omega))).trans a2, (hb.cell (by first | omega | (simp; omega) | (simp only [block_of_add]; omega))).trans a3, (hb.cell (by first | omega | (simp; omega) | (simp only [block_of_add]; omega))).trans a4, (hb.cell (by first | omega | (simp; omega) | (simp only [block_of_add]; omega))).trans a5, (hb.cell (by first | omega | (simp; omega) | (simp only [block_of_add]; omega))).trans a6, (hb.cell (by first | omega | (simp; omega) | (simp only [block_of_add]; omega))).trans a7, (hb.cell (by first | omega | (simp; omega) | (simp only [block_of_add]; omega))).trans a8, (hb.cell (by first | omega | (simp; omega) | (simp only [block_of_add]; omega))).trans a9, (hb.cell (by first | omega | (simp; omega) | (simp only [block_of_add]; omega))).trans a10⟩)
      have HCA := Lib.hid (show ∀ (W' : World) (o : Obj), (Below w2.heap.size w2 W' ∧ W'.cell? ⟨w.heap.size, 0, none⟩ = some (.int .i64 k.major) ∧ W'.cell? ⟨w.heap.size, 1, none⟩ = some (.int .i64 k.minor) ∧ W'.cell? ⟨w.heap.size, 2, none⟩ = some (.slice k.eA k.ex.length k.eC) ∧ W'.cell? (ad.add (j * 8)) = some (.string y.m.name) ∧ W'.cell? ⟨(ad.add (j * 8)).block, (ad.add (j * 8)).off + 1, none⟩ = some (.int .i64 y.m.major) ∧ W'.cell? ⟨(ad.add (j * 8)).block, (ad.add (j * 8)).off + 2, none⟩ = some (.int .i64 y.m.minor) ∧ W'.cell? ⟨(ad.add (j * 8)).block, (ad.add (j * 8)).off + 3, none⟩ = some (.string y.m.text) ∧ W'.cell? ⟨(ad.add (j * 8)).block, (ad.add (j * 8)).off + 4, none⟩ = some (.slice y.m.eA y.m.ex.length y.m.eC) ∧ W'.cell? ⟨(ad.add (j * 8)).block, (ad.add (j * 8)).off + 5, none⟩ = some (.slice y.m.iA y.m.im.length y.m.iC) ∧ W'.cell? ⟨(ad.add (j * 8)).block, (ad.add (j * 8)).off + 6, none⟩ = some (.slice y.m.pA y.m.pa.length y.m.pC) ∧ W'.cell? ⟨(ad.add (j * 8)).block, (ad.add (j * 8)).off + 7, none⟩ = some (.int .i64 y.first)) → (Below w2.heap.size w2 (W'.alloc o) ∧ (W'.alloc o).cell? ⟨w.heap.size, 0, none⟩ = some (.int .i64 k.major) ∧ (W'.alloc o).cell? ⟨w.heap.size, 1, none⟩ = some (.int .i64 k.minor) ∧ (W'.alloc o).cell? ⟨w.heap.size, 2, none⟩ = some (.slice k.eA k.ex.length k.eC) ∧ (W'.alloc o).cell? (ad.add (j * 8)) = some (.string y.m.name) ∧ (W'.alloc o).cell? ⟨(ad.add (j * 8)).block, (ad.add (j * 8)).off + 1, none⟩ = some (.int .i64 y.m.major) ∧ (W'.alloc o).cell? ⟨(ad.add (j * 8)).block, (ad.add (j * 8)).off + 2, none⟩ = some (.int .i64 y.m.minor) ∧ (W'.alloc o).cell? ⟨(ad.add (j * 8)).block, (ad.add (j * 8)).off + 3, none⟩ = some (.string y.m.text) ∧ (W'.alloc o).cell? ⟨(ad.add (j * 8)).block, (ad.add (j * 8)).off + 4, none⟩ = some (.slice y.m.eA y.m.ex.length y.m.eC) ∧ (W'.alloc o).cell? ⟨(ad.add (j * 8)).block, (ad.add (j * 8)).off + 5, none⟩ = some (.slice y.m.iA y.m.im.length y.m.iC) ∧ (W'.alloc o).cell? ⟨(ad.add (j * 8)).block, (ad.add (j * 8)).off + 6, none⟩ = some (.slice y.m.pA y.m.pa.length y.m.pC) ∧ (W'.alloc o).cell? ⟨(ad.add (j * 8)).block, (ad.add (j * 8)).off + 7, none⟩ = some (.int .i64 y.first)) from fun W' o hc => HCS.out W' (W'.alloc o) hc ((Below.refl _ _).alloc (Nat.le_refl _) o))
      have HCX := Lib.hid (show ∀ (W' : World) (bX oX : Nat) (vX : Value), w2.heap.size ≤ bX → (Below w2.heap.size w2 W' ∧ W'.cell? ⟨w.heap.size, 0, none⟩ = some (.int .i64 k.major) ∧ W'.cell? ⟨w.heap.size, 1, none⟩ = some (.int .i64 k.minor) ∧ W'.cell? ⟨w.heap.size, 2, none⟩ = some (.slice k.eA k.ex.length k.eC) ∧ W'.cell? (ad.add (j * 8)) = some (.string y.m.name) ∧ W'.cell? ⟨(ad.add (j * 8)).block, (ad.add (j * 8)).off + 1, none⟩ = some (.int .i64 y.m.major) ∧ W'.cell? ⟨(ad.add (j * 8)).block, (ad.add (j * 8)).off + 2, none⟩ = some (.int .i64 y.m.minor) ∧ W'.cell? ⟨(ad.add (j * 8)).block, (ad.add (j * 8)).off + 3, none⟩ = some (.string y.m.text) ∧ W'.cell? ⟨(ad.add (j * 8)).block, (ad.add (j * 8)).off + 4, none⟩ = some (.slice y.m.eA y.m.ex.length y.m.eC) ∧ W'.cell? ⟨(ad.add (j * 8)).block, (ad.add (j * 8)).off + 5, none⟩ = some (.slice y.m.iA y.m.im.length y.m.iC) ∧ W'.cell? ⟨(ad.add (j * 8)).block, (ad.add (j * 8)).off + 6, none⟩ = some (.slice y.m.pA y.m.pa.length y.m.pC) ∧ W'.cell? ⟨(ad.add (j * 8)).block, (ad.add (j * 8)).off + 7, none⟩ = some (.int .i64 y.first)) → (Below w2.heap.size w2 (W'.setCell ⟨bX, oX, none⟩ vX) ∧ (W'.setCell ⟨bX, oX, none⟩ vX).cell? ⟨w.heap.size, 0, none⟩ = some (.int .i64 k.major) ∧ (W'.setCell ⟨bX, oX, none⟩ vX).cell? ⟨w.heap.size, 1, none⟩ = some (.int .i64 k.minor) ∧ (W'.setCell ⟨bX, oX, none⟩ vX).cell? ⟨w.heap.size, 2, none⟩ = some (.slice k.eA k.ex.length k.eC) ∧ (W'.setCell ⟨bX, oX, none⟩ vX).cell? (ad.add (j * 8)) = some (.string y.m.name) ∧ (W'.setCell ⟨bX, oX, none⟩ vX).cell? ⟨(ad.add (j * 8)).block, (ad.add (j * 8)).off + 1, none⟩ = some (.int .i64 y.m.major) ∧ (W'.setCell ⟨bX, oX, none⟩ vX).cell? ⟨(ad.add (j * 8)).block, (ad.add (j * 8)).off + 2, none⟩ = some (.int .i64 y.m.minor) ∧ (W'.setCell ⟨bX, oX, none⟩ vX).cell? ⟨(ad.add (j * 8)).block, (ad.add (j * 8)).off + 3, none⟩ = some (.string y.m.text) ∧ (W'.setCell ⟨bX, oX, none⟩ vX).cell? ⟨(ad.add (j * 8)).block, (ad.add (j * 8)).off + 4, none⟩ = some (.slice y.m.eA y.m.ex.length y.m.eC) ∧ (W'.setCell ⟨bX, oX, none⟩ vX).cell? ⟨(ad.add (j * 8)).block, (ad.add (j * 8)).off + 5, none⟩ = some (.slice y.m.iA y.m.im.length y.m.iC) ∧ (W'.setCell ⟨bX, oX, none⟩ vX).cell? ⟨(ad.add (j * 8)).block, (ad.add (j * 8)).off + 6, none⟩ = some (.slice y.m.pA y.m.pa.length y.m.pC) ∧ (W'.setCell ⟨bX, oX, none⟩ vX).cell? ⟨(ad.add (j * 8)).block, (ad.add (j * 8)).off + 7, none⟩ = some (.int .i64 y.first)) from fun W' bX oX vX hbX ⟨b, a0, a1, a2, a3, a4, a5, a6, a7, a8, a9, a10⟩ => ⟨b.setCell (p := ⟨bX, oX, none⟩) hbX vX, (((Below.refl _ _).setCell (p := ⟨bX, oX, none⟩) hbX vX).cell (by first | omega | (simp; omega) | (simp only [block_of_add]; omega))).trans a0, (((Below.refl _ _).setCell (p := ⟨bX, oX, none⟩) hbX vX).cell (by first | omega | (simp; omega) | (simp only [block_of_add]; omega))).trans a1, (((Below.refl _ _).setCell (p := ⟨bX, oX, none⟩) hbX vX).cell (by first | omega | (simp; omega) | (simp only [block_of_add]; omega))).trans a2, (((Below.refl _ _).setCell (p := ⟨bX, oX, none⟩) hbX vX).cell (by first | omega | (simp; omega) | (simp only [block_of_add]; omega))).trans a3, (((Below.refl _ _).setCell (p := ⟨bX, oX, none⟩) hbX vX).cell (by first | omega | (simp; omega) | (simp only [block_of_add]; omega))).trans a4, (((Below.refl _ _).setCell (p := ⟨bX, oX, none⟩) hbX vX).cell (by first | omega | (simp; omega) | (simp only [block_of_add]; omega))).trans a5, (((Below.refl _ _).setCell (p := ⟨bX, oX, none⟩) hbX vX).cell (by first | omega | (simp; omega) | (simp only [block_of_add]; omega))).trans a6, (((Below.refl _ _).setCell (p := ⟨bX, oX, none⟩) hbX vX).cell (by first | omega | (simp; omega) | (simp only [block_of_add]; omega))).trans a7, (((Below.refl _ _).setCell (p := ⟨bX, oX, none⟩) hbX vX).cell (by first | omega | (simp; omega) | (simp only [block_of_add]; omega))).trans a8, (((Below.refl _ _).setCell (p := ⟨bX, oX, none⟩) hbX vX).cell (by first | omega | (simp; omega) | (simp only [block_of_add]; omega))).trans a9, (((Below.refl _ _).setCell (p := ⟨bX, oX, none⟩) hbX vX).cell (by first | omega | (simp; omega) | (simp only [block_of_add]; omega))).trans a10⟩)
      have HCL := Lib.hid (show ∀ W' : World, (Below w2.heap.size w2 W' ∧ W'.cell? ⟨w.heap.size, 0, none⟩ = some (.int .i64 k.major) ∧ W'.cell? ⟨w.heap.size, 1, none⟩ = some (.int .i64 k.minor) ∧ W'.cell? ⟨w.heap.size, 2, none⟩ = some (.slice k.eA k.ex.length k.eC) ∧ W'.cell? (ad.add (j * 8)) = some (.string y.m.name) ∧ W'.cell? ⟨(ad.add (j * 8)).block, (ad.add (j * 8)).off + 1, none⟩ = some (.int .i64 y.m.major) ∧ W'.cell? ⟨(ad.add (j * 8)).block, (ad.add (j * 8)).off + 2, none⟩ = some (.int .i64 y.m.minor) ∧ W'.cell? ⟨(ad.add (j * 8)).block, (ad.add (j * 8)).off + 3, none⟩ = some (.string y.m.text) ∧ W'.cell? ⟨(ad.add (j * 8)).block, (ad.add (j * 8)).off + 4, none⟩ = some (.slice y.m.eA y.m.ex.length y.m.eC) ∧ W'.cell? ⟨(ad.add (j * 8)).block, (ad.add (j * 8)).off + 5, none⟩ = some (.slice y.m.iA y.m.im.length y.m.iC) ∧ W'.cell? ⟨(ad.add (j * 8)).block, (ad.add (j * 8)).off + 6, none⟩ = some (.slice y.m.pA y.m.pa.length y.m.pC) ∧ W'.cell? ⟨(ad.add (j * 8)).block, (ad.add (j * 8)).off + 7, none⟩ = some (.int .i64 y.first)) → Below w2.heap.size w2 W' from fun W' hc => hc.1)
      clear k0 k1 k2 m0 m1 m2 m3 m4 m5 m6 m7 g0 g1 g2
      go_region_held3 (fun W' => Below w2.heap.size w2 W' ∧ W'.cell? ⟨w.heap.size, 0, none⟩ = some (.int .i64 k.major) ∧ W'.cell? ⟨w.heap.size, 1, none⟩ = some (.int .i64 k.minor) ∧ W'.cell? ⟨w.heap.size, 2, none⟩ = some (.slice k.eA k.ex.length k.eC) ∧ W'.cell? (ad.add (j * 8)) = some (.string y.m.name) ∧ W'.cell? ⟨(ad.add (j * 8)).block, (ad.add (j * 8)).off + 1, none⟩ = some (.int .i64 y.m.major) ∧ W'.cell? ⟨(ad.add (j * 8)).block, (ad.add (j * 8)).off + 2, none⟩ = some (.int .i64 y.m.minor) ∧ W'.cell? ⟨(ad.add (j * 8)).block, (ad.add (j * 8)).off + 3, none⟩ = some (.string y.m.text) ∧ W'.cell? ⟨(ad.add (j * 8)).block, (ad.add (j * 8)).off + 4, none⟩ = some (.slice y.m.eA y.m.ex.length y.m.eC) ∧ W'.cell? ⟨(ad.add (j * 8)).block, (ad.add (j * 8)).off + 5, none⟩ = some (.slice y.m.iA y.m.im.length y.m.iC) ∧ W'.cell? ⟨(ad.add (j * 8)).block, (ad.add (j * 8)).off + 6, none⟩ = some (.slice y.m.pA y.m.pa.length y.m.pC) ∧ W'.cell? ⟨(ad.add (j * 8)).block, (ad.add (j * 8)).off + 7, none⟩ = some (.int .i64 y.first)) (first | exact HC0.out | exact HCD.out _ HC0.out | exact HCS.out _ _ (by assumption) (by assumption) | exact HCS.out _ _ HC0.out (by assumption) | exact HCS.out _ _ (HCD.out _ HC0.out) (by assumption) | exact HCS.out _ _ (HCD.out _ (by assumption)) (by assumption) | exact HCD.out _ (by assumption) | exact HCA.out _ _ (by assumption) | exact HCA.out _ _ HC0.out | exact HCA.out _ _ (HCD.out _ HC0.out) | exact HCD.out _ (HCA.out _ _ (by assumption)) | exact HCA.out _ _ (HCS.out _ _ HC0.out (by assumption)) | exact HCA.out _ _ (HCS.out _ _ (HCD.out _ HC0.out) (by assumption)) | exact HCX.out _ _ _ _ (Nat.le_refl _) (by assumption) | exact HCX.out _ _ _ _ (Nat.le_refl _) (HCS.out _ _ (HCA.out _ _ HC0.out) (by assumption)) | exact HCX.out _ _ _ _ (Nat.le_refl _) (HCS.out _ _ (HCD.out _ (HCA.out _ _ HC0.out)) (by assumption)) | assumption) (first | (go_at_call 9; (with_reducible refine (cI.out _ (HB2.out.trans ((HCL.out _ (by assumption)).mono HB2.out.size))).mono ?_); rintro e w5 ⟨rfl, hb5⟩))
      have hB := Lib.hid (HCL.out _ (by assumption))
      go_wp2_with fail
      go_ret2
      exact ⟨rfl, HB2.out.trans (hB.out.mono HB2.out.size)⟩
  · rw [if_pos t1] at hT hE
    have t1' : (L != 0) = true := by simp [t1]
    have t1'' : (L == 0) = false := by simp [t1]
    subst hT hE
    clear t1
    go_enter Try.func6, Try.ntmps6
    go_wp2_with (first | (go_at_call 8; (with_reducible refine (c1.out).mono ?_); rintro e w1 ⟨rfl, hb1⟩) | (go_at_call 16; (with_reducible refine (c2.out _ (H0.out.trans (hb1.mono (by omega)))).mono ?_); rintro e w2 ⟨rfl, hb2⟩))
    go_ret2
    exact ⟨rfl, (H0.out.trans (hb1.mono (by omega))).trans (hb2.mono (by have := hb1.size; omega))⟩

def aglue (pre : Tx) (r : Tx × Int) : Tx × Int := if r.2 ≠ 0 then ([], r.2) else (pre ++ r.1, 0)
theorem areaGo_bad {k : Krn} {l : List Plc} : ∀ {r : List Plc} {a : Int}, (areaGo k l r a).2 ≠ 0 → (areaGo k l r a).1 = []
  | [], a, h => absurd rfl h
  | x :: r, a, h => by
    unfold areaGo at h ⊢
    split
    · rfl
    · rename_i h1
      rw [if_neg h1] at h
      split
      · rfl
      · rename_i h2
        rw [if_neg h2] at h
        exact absurd rfl h
theorem aglue_nil {k : Krn} {l r : List Plc} {a : Int} : aglue [] (areaGo k l r a) = areaGo k l r a := by
  unfold aglue
  split
  · rename_i h; rw [← areaGo_bad h]
  · rename_i h
    have h' : (areaGo k l r a).2 = 0 := by omega
    rw [← h']; rfl
theorem area_err {k : Krn} {l : List Plc} {pre : Tx} {a : Int} {j : Nat} (hj : j < l.length) (e : (imgOf k l l[j]).2 ≠ 0) : aglue pre (areaGo k l (l.drop j) a) = ([], (imgOf k l l[j]).2) := by
  rw [List.drop_eq_getElem_cons hj]
  unfold areaGo
  rw [if_pos e]
  unfold aglue
  rw [if_pos e]
theorem area_next {k : Krn} {l : List Plc} {pre : Tx} {a : Int} {j : Nat} (hj : j < l.length) (e : (imgOf k l l[j]).2 = 0) :
    aglue (pre ++ (List.replicate (64 * (l[j].first - a)).toNat 255 ++ (imgOf k l l[j]).1)) (areaGo k l (l.drop (j + 1)) (endOf l[j])) = aglue pre (areaGo k l (l.drop j) a) := by
  rw [List.drop_eq_getElem_cons hj]
  conv => rhs; unfold areaGo
  rw [if_neg (by omega)]
  unfold aglue
  by_cases h : (areaGo k l (l.drop (j + 1)) (endOf l[j])).2 = 0
  · simp only [h, ne_eq, not_true_eq_false, if_false, List.append_assoc]
  · simp only [ne_eq, h, not_false_eq_true, if_true]
theorem area_end {k : Krn} {l : List Plc} {pre : Tx} {a : Int} {j : Nat} (hj : ¬ j < l.length) : aglue pre (areaGo k l (l.drop j) a) = (pre ++ List.replicate (64 * (16 - a)).toNat 255, 0) := by
  rw [List.drop_eq_nil_of_le (by omega)]
  unfold areaGo aglue
  rw [if_neg (by simp)]
theorem ffs_app (n : Nat) (t : Tx) : (ffs n ++ bs t).data.toList = List.replicate n 255 ++ t := by
  rw [ba_append]; rfl
theorem holdsB : Holds 46 := ⟨by kernel_rfl, by decide⟩
theorem row16_at {l : List Plc} {a : Int} {j : Nat} (h : Row16 a (l.drop j)) (hj : j < l.length) : a ≤ l[j].first ∧ 1 ≤ manyOf l[j].m ∧ manyOf l[j].m ≤ 4 ∧ Row16 (endOf l[j]) (l.drop (j + 1)) := by
  rw [List.drop_eq_getElem_cons hj] at h
  exact h

set_option maxHeartbeats 4000000 in
set_option maxRecDepth 100000 in
theorem Area_any (k : Krn) (A : Option Addr) (c : Nat) (l : List Plc) (w : World) (hk : k.ok w) (h : PlsOk w A l) :
    Calls Try.prog 4 #[k.v, .slice A l.length c] w fun e w' => e = .returned (.tuple #[.string (bs (areaT k l)), .int .i64 (areaErr k l)]) ∧ Below w.heap.size w w' := by
  obtain ⟨w0, hw0⟩ : ∃ w0, w0 = w.alloc (.cells #[.int .i64 k.major, .int .i64 k.minor, .slice k.eA k.ex.length k.eC] 24) := ⟨_, rfl⟩
  obtain ⟨g0, g1, g2, hz, hb0⟩ := box3 hw0
  have hz0 : w.heap.size < w0.heap.size := by omega
  have H0 := Lib.hid hb0
  have hw0' := hw0.symm
  have c1 := Lib.hid (LCheck_any k A c l w0 (hk.below hb0) (h.below hb0))
  have hlen := h.len
  unfold big at hlen
  have HP := Lib.hid h
  have HK := Lib.hid hk
  have HPL := Lib.hid (fun (e : linkErr k l = 0) => (linkErr_ok e).2.2.2)
  have HRW := Lib.hid (fun (e : linkErr k l = 0) => (reg_row (linkErr_ok e).2.1).2.2)
  have HEA := Lib.hid (fun (e : linkErr k l = 0) => plc_link e)
  obtain ⟨T, hT⟩ : ∃ T, T = areaT k l := ⟨_, rfl⟩
  obtain ⟨E, hE⟩ : ∃ E, E = areaErr k l := ⟨_, rfl⟩
  rw [← hT, ← hE]
  unfold areaT at hT
  unfold areaErr at hE
  obtain ⟨L, hL⟩ : ∃ L, L = linkErr k l := ⟨_, rfl⟩
  simp only [← hL] at c1 HPL HRW HEA hT hE
  clear hw0 hb0 hz hL h hk
  by_cases t1 : L = 0
  · subst t1
    rw [if_neg (by omega)] at hT hE
    obtain ⟨R, hRR⟩ : ∃ R, R = areaGo k l l 0 := ⟨_, rfl⟩
    rw [← hRR] at hT hE
    have HRR := Lib.hid hRR.symm
    have HTE := Lib.hid (show R = (T, E) by rw [hT, hE])
    have HRW1 := Lib.hid (HRW.out rfl)
    have HPL1 := Lib.hid (HPL.out rfl)
    have HEA1 := Lib.hid (HEA.out rfl)
    clear hT hE hRR
    go_enter Try.func4, Try.ntmps4
    go_wp2_with (go_at_call 8; (with_reducible refine (c1.out).mono ?_); rintro e w1 ⟨rfl, hb1⟩; have HB1 := Lib.hid (H0.out.trans (hb1.mono (by omega))); have k0 := (hb1.cell (p := ⟨w.heap.size, 0, none⟩) hz0).trans g0; have k1 := (hb1.cell (p := ⟨w.heap.size, 1, none⟩) hz0).trans g1; have k2 := (hb1.cell (p := ⟨w.heap.size, 2, none⟩) hz0).trans g2; have hz1 : w.heap.size < w1.heap.size := (by have := hb1.size; omega); clear hb1)
    have HN0 := Lib.hid (Lib.fresh_isBuilder 46 5 w1)
    have HAL0 := Lib.hid (fun cs => (Below.refl w1.heap.size w1).alloc (Nat.le_refl _) (.cells cs 46))
    have HK0 := Lib.hid k0
    have HK1 := Lib.hid k1
    have HK2 := Lib.hid k2
    clear g0 g1 g2 k0 k1 k2
    go_loopw [8, 21] (fun v i wr => ∃ (j : Nat) (a : Int) (pre : Tx), j ≤ l.length ∧ i = .int .i64 j ∧ v = .int .i64 a ∧ 0 ≤ a ∧ a ≤ 16 ∧ Row16 a (l.drop j) ∧ (pre.length : Int) = 64 * a ∧ Bld 46 w1.heap.size pre wr ∧ aglue pre (areaGo k l (l.drop j) a) = R ∧ Below w1.heap.size w1 wr) (fun _ i _ => l.length - (intOf i).toNat)
    case atStart => exact ⟨0, 0, [], by omega, rfl, rfl, by omega, by omega, HRW1.out, rfl, HN0.out, by rw [aglue_nil]; exact HRR.out, HAL0.out _⟩
    case round =>
      obtain ⟨j, a, pre, hj, rfl, rfl, ha0, ha1, hrw, hpl, hB, hR, hb⟩ := hrel
      have HB := Lib.hid hb
      have HBL := Lib.hid hB
      have hpb := hB.lt
      have HR := Lib.hid hR
      have HPL2 := Lib.hid hpl
      have HRW2 := Lib.hid hrw
      have hpre : pre.length ≤ 1024 := by omega
      clear hB hR hpl hrw
      by_cases hlt : j < l.length
      · have hlt' : (j : Int) < l.length := by omega
        obtain ⟨r1, r2, r3, r4⟩ := row16_at HRW2.out hlt
        obtain ⟨q1, q2, q3⟩ := HEA1.out l[j] (List.getElem_mem _)
        have hb9 := HB1.out.trans (hb.mono HB1.out.size)
        obtain ⟨ad, rfl, hab, f0, f1, f2, f3, f4, f5, f6, f7⟩ := plc_at HP.out.row hb9 j hlt
        have m0 := (hb.cell (p := ⟨w.heap.size, 0, none⟩) hz1).trans HK0.out
        have m1 := (hb.cell (p := ⟨w.heap.size, 1, none⟩) hz1).trans HK1.out
        have m2 := (hb.cell (p := ⟨w.heap.size, 2, none⟩) hz1).trans HK2.out
        have E1 := Lib.hid (fun e => (area_err (k := k) (pre := pre) (a := a) hlt e).symm.trans HR.out)
        have E2 := Lib.hid (fun e => (area_next (k := k) (pre := pre) (a := a) hlt e).trans HR.out)
        have E3 := Lib.hid (fun (e : (imgOf k l (l[j]'hlt)).2 = 0) => imgOf_length (k := k) (l := l) (x := l[j]'hlt) e)
        have cI := Lib.hid (fun W (hW : Below w.heap.size w W) => image_any k (some ad) c l l[j] W (HK.out.below hW) (HP.out.below hW) ((HP.out.each l[j] (List.getElem_mem _)).below hW) HPL1.out q1 q2 q3)
        have ht := (modErr_facts q1).2.2.1
        have cE := Lib.hid (fun W => End_any l[j] W ht q2 q3)
        have hEn : endOf l[j] = l[j].first + manyOf l[j].m := rfl
        have hle := Row16.le r4
        obtain ⟨y, hy⟩ : ∃ y, y = l[j]'hlt := ⟨_, rfl⟩
        simp only [← hy] at f0 f1 f2 f3 f4 f5 f6 f7 E1 E2 E3 cI cE hEn hle r1 r2 r3 r4 q2 q3
        have R4 := Lib.hid r4
        obtain ⟨wq, hwq⟩ : ∃ wq, wq = wr.alloc (.cells #[.string y.m.name, .int .i64 y.m.major, .int .i64 y.m.minor, .string y.m.text, .slice y.m.eA y.m.ex.length y.m.eC, .slice y.m.iA y.m.im.length y.m.iC, .slice y.m.pA y.m.pa.length y.m.pC, .int .i64 y.first] 36) := ⟨_, rfl⟩
        obtain ⟨y0, y1, y2, y3, y4, y5, y6, y7, hzq, hbq⟩ := box8 hwq
        have hhq : wq.heap[wr.heap.size]? = some (.cells #[.string y.m.name, .int .i64 y.m.major, .int .i64 y.m.minor, .string y.m.text, .slice y.m.eA y.m.ex.length y.m.eC, .slice y.m.iA y.m.im.length y.m.iC, .slice y.m.pA y.m.pa.length y.m.pC, .int .i64 y.first] 36 (0, 0)) := by rw [hwq]; exact heap_alloc_new _ _
        have HHQ := Lib.hid hhq
        have hwq' := hwq.symm
        have hwz : wr.heap.size < wq.heap.size := by omega
        have n0 := (hbq.cell (p := ⟨w.heap.size, 0, none⟩) (show w.heap.size < wr.heap.size by omega)).trans m0
        have n1 := (hbq.cell (p := ⟨w.heap.size, 1, none⟩) (show w.heap.size < wr.heap.size by omega)).trans m1
        have n2 := (hbq.cell (p := ⟨w.heap.size, 2, none⟩) (show w.heap.size < wr.heap.size by omega)).trans m2
        have HBQ := Lib.hid hbq
        have HB9 := Lib.hid (hb9.trans (hbq.mono hb9.size))
        clear hb hb9 hy hwq hzq hbq hhq m0 m1 m2 q1 ht r4
        obtain ⟨⟨G, ge⟩, hG⟩ : ∃ G, G = imgOf k l y := ⟨_, rfl⟩
        simp only [← hG] at cI E1 E2 E3
        clear hG
        by_cases tE : ge = 0
        · subst tE
          have e2 := Lib.hid (E2.out rfl)
          have e3 := E3.out rfl
          obtain ⟨n, hn⟩ : ∃ n : Nat, y.first - a = n := ⟨(y.first - a).toNat, by omega⟩
          have cB := Lib.hid (fun W => lblank_any n W (by omega))
          have hgs : (bs G).size = G.length := rfl
          have hfs := ffs_size (64 * n)
          have g9 : ∀ W, (Op.stringOp .add (ffs (64 * n)) (bs G)).run Try.prog W = .ok (.string (ffs (64 * n) ++ bs G)) W := fun W => run_string_add_sum _ _ _ (by rw [hgs, hfs]; omega)
          have HXL := Lib.hid (ffs_app (64 * n) G)
          have hxs : (ffs (64 * n) ++ bs G).size ≤ 2048 := by rw [ByteArray.size_append, hgs, hfs]; omega
          have HN := Lib.hid (show (64 * (y.first - a)).toNat = 64 * n by omega)
          have HGL := Lib.hid e3
          obtain ⟨X, hX⟩ : ∃ X, X = ffs (64 * n) ++ bs G := ⟨_, rfl⟩
          rw [← hX] at hxs
          simp only [← hX] at g9 HXL
          have cW := Lib.hid (fun W hW => WriteString_any 46 w1.heap.size holdsB pre X W hW (by omega))
          generalize ffs (64 * n) = F at *
          clear hgs hfs hX e3
          go_wp2_with (first
            | (go_at_call 9; (with_reducible refine (cI.out _ HB9.out).mono ?_); rintro e w5 ⟨rfl, hb5⟩
               have HB5 := Lib.hid hb5
               have z7 := (hb5.cell (p := ⟨wr.heap.size, 7, none⟩) hwz).trans y7
               have hz5 := hb5.size
               clear hb5)
            | (go_at_call 11; (with_reducible refine (cB.out _).mono ?_); rintro e w6 ⟨rfl, hb6⟩
               have HB6 := Lib.hid hb6
               have HW6 := Lib.hid (((HBL.out.below HBQ.out).below HB5.out).below hb6)
               have HH6 := Lib.hid ((hb6.block _ (by omega)).trans ((HB5.out.block _ hwz).trans HHQ.out))
               clear hb6 z7)
            | (go_at_call 10; (with_reducible refine (cW.out _ HW6.out).mono ?_); rintro e w7 ⟨⟨u, rfl⟩, hB7, hb7, hk7⟩
               have hh7 := hk7.heap HH6.out (by omega) (by decide)
               have c0 : w7.cell? ⟨wr.heap.size, 0, none⟩ = some (.string y.m.name) := by rw [Lib.cell_of_heap hh7]; rfl
               have c1 : w7.cell? ⟨wr.heap.size, 1, none⟩ = some (.int .i64 y.m.major) := by rw [Lib.cell_of_heap hh7]; rfl
               have c2 : w7.cell? ⟨wr.heap.size, 2, none⟩ = some (.int .i64 y.m.minor) := by rw [Lib.cell_of_heap hh7]; rfl
               have c3 : w7.cell? ⟨wr.heap.size, 3, none⟩ = some (.string y.m.text) := by rw [Lib.cell_of_heap hh7]; rfl
               have c4 : w7.cell? ⟨wr.heap.size, 4, none⟩ = some (.slice y.m.eA y.m.ex.length y.m.eC) := by rw [Lib.cell_of_heap hh7]; rfl
               have c5 : w7.cell? ⟨wr.heap.size, 5, none⟩ = some (.slice y.m.iA y.m.im.length y.m.iC) := by rw [Lib.cell_of_heap hh7]; rfl
               have c6 : w7.cell? ⟨wr.heap.size, 6, none⟩ = some (.slice y.m.pA y.m.pa.length y.m.pC) := by rw [Lib.cell_of_heap hh7]; rfl
               have c7 : w7.cell? ⟨wr.heap.size, 7, none⟩ = some (.int .i64 y.first) := by rw [Lib.cell_of_heap hh7]; rfl
               have HB7 := Lib.hid hb7
               have HW7 := Lib.hid hB7
               have hlt7 : wr.heap.size < w7.heap.size := (Array.getElem?_eq_some_iff.1 hh7).1
               clear hB7 hb7 hk7 hh7)
            | (go_at_call 12; (with_reducible refine (cE.out _).mono ?_); rintro e w8 ⟨rfl, hb8⟩))
          go_roundw
          case rel =>
            refine ⟨j + 1, endOf y, pre ++ X.data.toList, by omega, by go_num, rfl, by omega, hle, R4.out, ?_, HW7.out.below hb8, ?_, ?_⟩
            · rw [HXL.out, List.length_append, List.length_append, List.length_replicate]
              have := HPL2.out
              have := HGL.out
              omega
            · rw [HXL.out, ← HN.out]; exact e2.out
            · exact HB.out.trans ((HBQ.out.mono (by omega)).trans ((HB5.out.mono (by omega)).trans ((HB6.out.mono (by omega)).trans (HB7.out.trans (hb8.mono (by omega))))))
          case measure => (simp [intOf]; try omega)
        · have e1 := Lib.hid (E1.out tE)
          have tE' : (ge != 0) = true := by simp [tE]
          clear E2 E3 tE
          go_wp2_with (go_at_call 9; (with_reducible refine (cI.out _ HB9.out).mono ?_); rintro e w5 ⟨rfl, hb5⟩; have HB5 := Lib.hid hb5; clear hb5)
          go_ret2
          refine ⟨?_, HB9.out.trans (HB5.out.mono HB9.out.size)⟩
          have := e1.out.trans HTE.out
          obtain ⟨rfl, rfl⟩ := Prod.mk.inj this
          rfl
      · have e1 := Lib.hid ((area_end (k := k) (pre := pre) (a := a) hlt).symm.trans HR.out)
        obtain rfl : j = l.length := by omega
        obtain ⟨n, hn⟩ : ∃ n : Nat, 16 - a = n := ⟨(16 - a).toNat, by omega⟩
        have cB := Lib.hid (fun W => lblank_any n W (by omega))
        have cS := Lib.hid (fun W hW hs => Try.Builder_String_any w1.heap.size w1.heap.size pre W hW hs)
        have hgs : (bs pre).size = pre.length := rfl
        have hfs := ffs_size (64 * n)
        have g9 : ∀ W, (Op.stringOp .add (bs pre) (ffs (64 * n))).run Try.prog W = .ok (.string (bs pre ++ ffs (64 * n))) W := fun W => run_string_add_sum _ _ _ (by rw [hgs, hfs]; omega)
        have HX := Lib.hid (show bs pre ++ ffs (64 * n) = bs (pre ++ List.replicate (64 * n) 255) from ba_eq (by rw [ba_append]; rfl))
        have HN := Lib.hid (show (64 * (16 - a)).toNat = 64 * n by omega)
        generalize ffs (64 * n) = F at *
        clear hgs hfs hlt
        go_wp2_with (first
          | (go_at_call 13; (with_reducible refine (cS.out _ HBL.out (by omega)).mono ?_); rintro e w5 ⟨rfl, hb5⟩; have HB5 := Lib.hid hb5; clear hb5)
          | (go_at_call 11; (with_reducible refine (cB.out _).mono ?_); rintro e w6 ⟨rfl, hb6⟩))
        go_ret2
        refine ⟨?_, HB1.out.trans ((HB.out.trans (HB5.out.trans (hb6.mono (by have := HB5.out.size; omega)))).mono HB1.out.size)⟩
        have := e1.out.trans HTE.out
        rw [HN.out] at this
        obtain ⟨rfl, rfl⟩ := Prod.mk.inj this
        rw [← HX.out]
        rfl
  · rw [if_pos t1] at hT hE
    have t1' : (L != 0) = true := by simp [t1]
    have t1'' : (L == 0) = false := by simp [t1]
    subst hT hE
    clear t1
    go_enter Try.func4, Try.ntmps4
    go_wp2_with (go_at_call 8; (with_reducible refine (c1.out).mono ?_); rintro e w1 ⟨rfl, hb1⟩)
    go_ret2
    exact ⟨rfl, H0.out.trans (hb1.mono (by omega))⟩

end Go.Proofs.Ytjnfemcfohflnaa
