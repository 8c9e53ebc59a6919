import Derived.Test.YtjiedaialianmaaGreatG05
section

namespace Go.Proofs.YtjiedaialianmaaGreat
open Go.RowKit

set_option maxHeartbeats 4000000 in
set_option maxRecDepth 100000 in
theorem AddressesOf_any (k : Krn) (A : Option Addr) (c : Nat) (l : List Plc) (nm tx : ByteArray) (mj mn : Int) (ex : List Exp) (im : List Imp) (pa : List Pat) (eA iA pA : Option Addr) (eC iC pC : Nat) (w : World) (hk : k.ok w) (h : PlsOk w A l) (him : ImpsOk w iA im) (hi6 : im.length ≤ 6) (hp : placedErr k l = 0) :
    Calls Tryz.prog 230 #[k.v, .slice A l.length c, .agg #[.string nm, .int .i64 mj, .int .i64 mn, .string tx, .slice eA ex.length eC, .slice iA im.length iC, .slice pA pa.length pC]] w fun e w' =>
      (∃ (A' : Option Addr) (c' : Nat), e = .returned (.tuple #[.slice A' (addrsOf k l im).1.length c', .int .i64 (addrsOf k l im).2]) ∧ IntRow w' A' (addrsOf k l im).1) ∧ Below w.heap.size w w' := by
  obtain ⟨wk, hwk⟩ : ∃ wk, wk = w.alloc (.cells #[.int .i64 k.major, .int .i64 k.minor, .slice k.eA k.ex.length k.eC] 24) := ⟨_, rfl⟩
  obtain ⟨g0, g1, g2, hzk, hbk⟩ := box3 hwk
  obtain ⟨w0, hw0⟩ : ∃ w0, w0 = wk.alloc (.cells #[.string nm, .int .i64 mj, .int .i64 mn, .string tx, .slice eA ex.length eC, .slice iA im.length iC, .slice pA pa.length pC] 70) := ⟨_, rfl⟩
  obtain ⟨_, _, _, _, _, f5, _, hz0, hb0⟩ := box7 hw0
  rw [hzk] at f5 hz0 hb0
  have k0 := (hb0.cell (p := ⟨w.heap.size, 0, none⟩) (by simp)).trans g0
  have k1 := (hb0.cell (p := ⟨w.heap.size, 1, none⟩) (by simp)).trans g1
  have k2 := (hb0.cell (p := ⟨w.heap.size, 2, none⟩) (by simp)).trans g2
  have H0 := Lib.hid (show Below w.heap.size w w0 from hbk.trans (hb0.mono (by omega)))
  have HZ := Lib.hid hz0
  have hwk' := hwk.symm
  have hw0' := hw0.symm
  have HIM := Lib.hid him
  obtain ⟨R, hR⟩ : ∃ R, R = addrsOf k l im := ⟨_, rfl⟩
  rw [← hR]
  have HR := Lib.hid hR
  clear hwk hw0 hbk hb0 g0 g1 g2 him hR hz0
  have cA := Lib.hid (fun W (hb : Below w.heap.size w W) i => AddressOf_any k A c l i W (hk.below hb) (h.below hb) hp)
  clear hk h hp
  go_enter Tryz.func230, Tryz.ntmps230
  go_wp2_with fail
  go_loopw [8, 9] (fun v i wr => ∃ (j : Nat) (pre : List Int), j ≤ im.length ∧ i = .int .i64 j ∧ pre.length = j ∧ Ints wr w0.heap.size v pre ∧ glue pre (addrsOf k l (im.drop j)) = R ∧ Below w0.heap.size w0 wr) (fun _ i _ => im.length - (intOf i).toNat)
  case atStart => exact ⟨0, [], by omega, rfl, rfl, Ints.nil _ _, by rw [HR.out]; exact glue_nil, Below.refl _ _⟩
  case round =>
    obtain ⟨j, pre, hj, rfl, hpl, hin, hG, hb⟩ := hrel
    have HG := Lib.hid hG
    have HB := Lib.hid hb
    have HI := Lib.hid hin
    have HPL := Lib.hid hpl
    clear hG hin hpl
    obtain ⟨vA, vc, rfl, hrow⟩ := HI.out.row
    have hwz := hb.size
    have hz0 := HZ.out
    have hz1 : w.heap.size + 1 < wr.heap.size := by omega
    have hz2 : w.heap.size < wr.heap.size := by omega
    have r0 := (hb.cell (p := ⟨w.heap.size, 0, none⟩) (by simp; omega)).trans k0
    have r1 := (hb.cell (p := ⟨w.heap.size, 1, none⟩) (by simp; omega)).trans k1
    have r2 := (hb.cell (p := ⟨w.heap.size, 2, none⟩) (by simp; omega)).trans k2
    have r5 := (hb.cell (p := ⟨w.heap.size + 1, 5, none⟩) (by simp; omega)).trans f5
    have HX := Lib.hid (show Below w.heap.size w wr from H0.out.trans (hb.mono H0.out.size))
    clear hz0
    by_cases hlt : j < im.length
    · have hlt' : (j : Int) < im.length := by omega
      obtain ⟨ad, rfl, hab, h0, h1, h2, h3⟩ := imp_at HIM.out.1 HX.out j hlt
      have cJ := Lib.hid (fun W hb => cA.out W hb im[j])
      obtain ⟨V, hV⟩ : ∃ V, V = addrOf k l im[j] := ⟨_, rfl⟩
      have e1 := Lib.hid (fun he => (glue_err (k := k) (l := l) (pre := pre) hlt he).symm.trans HG.out)
      have e2 := Lib.hid (fun he => (glue_ok (k := k) (l := l) (pre := pre) hlt he).trans HG.out)
      rw [← hV] at e1 e2
      simp only [← hV] at cJ
      clear hV hb
      obtain ⟨v1, v2⟩ := V
      simp only at e1 e2 cJ
      have hbm : (ad.add (j * 4)).block < wr.heap.size := by rw [block_of_add]; omega
      have hC0 : (Below wr.heap.size wr wr ∧ wr.cell? ⟨w.heap.size, 0, none⟩ = some (.int .i64 k.major) ∧ wr.cell? ⟨w.heap.size, 1, none⟩ = some (.int .i64 k.minor) ∧ wr.cell? ⟨w.heap.size, 2, none⟩ = some (.slice k.eA k.ex.length k.eC) ∧ wr.cell? ⟨w.heap.size + 1, 5, none⟩ = some (.slice (some ad) im.length iC) ∧ wr.cell? (ad.add (j * 4)) = some (.string im[j].mod) ∧ wr.cell? ⟨(ad.add (j * 4)).block, (ad.add (j * 4)).off + 1, none⟩ = some (.string im[j].name) ∧ wr.cell? ⟨(ad.add (j * 4)).block, (ad.add (j * 4)).off + 2, none⟩ = some (iv im[j].major) ∧ wr.cell? ⟨(ad.add (j * 4)).block, (ad.add (j * 4)).off + 3, none⟩ = some (iv im[j].minor)) := ⟨Below.refl _ _, r0, r1, r2, r5, h0, h1, h2, h3⟩
      have hCD : ∀ W' : World, (Below wr.heap.size wr W' ∧ W'.cell? ⟨w.heap.size, 0, none⟩ = some (.int .i64 k.major) ∧ W'.cell? ⟨w.heap.size, 1, none⟩ = some (.int .i64 k.minor) ∧ W'.cell? ⟨w.heap.size, 2, none⟩ = some (.slice k.eA k.ex.length k.eC) ∧ W'.cell? ⟨w.heap.size + 1, 5, none⟩ = some (.slice (some ad) im.length iC) ∧ W'.cell? (ad.add (j * 4)) = some (.string im[j].mod) ∧ W'.cell? ⟨(ad.add (j * 4)).block, (ad.add (j * 4)).off + 1, none⟩ = some (.string im[j].name) ∧ W'.cell? ⟨(ad.add (j * 4)).block, (ad.add (j * 4)).off + 2, none⟩ = some (iv im[j].major) ∧ W'.cell? ⟨(ad.add (j * 4)).block, (ad.add (j * 4)).off + 3, none⟩ = some (iv im[j].minor)) → (Below wr.heap.size wr W'.drew ∧ W'.drew.cell? ⟨w.heap.size, 0, none⟩ = some (.int .i64 k.major) ∧ W'.drew.cell? ⟨w.heap.size, 1, none⟩ = some (.int .i64 k.minor) ∧ W'.drew.cell? ⟨w.heap.size, 2, none⟩ = some (.slice k.eA k.ex.length k.eC) ∧ W'.drew.cell? ⟨w.heap.size + 1, 5, none⟩ = some (.slice (some ad) im.length iC) ∧ W'.drew.cell? (ad.add (j * 4)) = some (.string im[j].mod) ∧ W'.drew.cell? ⟨(ad.add (j * 4)).block, (ad.add (j * 4)).off + 1, none⟩ = some (.string im[j].name) ∧ W'.drew.cell? ⟨(ad.add (j * 4)).block, (ad.add (j * 4)).off + 2, none⟩ = some (iv im[j].major) ∧ W'.drew.cell? ⟨(ad.add (j * 4)).block, (ad.add (j * 4)).off + 3, none⟩ = some (iv im[j].minor)) := fun W' ⟨b, a0, a1, a2, a5, i0, i1, i2, i3⟩ => ⟨b.drew, a0, a1, a2, a5, i0, i1, i2, i3⟩
      have hCS : ∀ W' W2 : World, (Below wr.heap.size wr W' ∧ W'.cell? ⟨w.heap.size, 0, none⟩ = some (.int .i64 k.major) ∧ W'.cell? ⟨w.heap.size, 1, none⟩ = some (.int .i64 k.minor) ∧ W'.cell? ⟨w.heap.size, 2, none⟩ = some (.slice k.eA k.ex.length k.eC) ∧ W'.cell? ⟨w.heap.size + 1, 5, none⟩ = some (.slice (some ad) im.length iC) ∧ W'.cell? (ad.add (j * 4)) = some (.string im[j].mod) ∧ W'.cell? ⟨(ad.add (j * 4)).block, (ad.add (j * 4)).off + 1, none⟩ = some (.string im[j].name) ∧ W'.cell? ⟨(ad.add (j * 4)).block, (ad.add (j * 4)).off + 2, none⟩ = some (iv im[j].major) ∧ W'.cell? ⟨(ad.add (j * 4)).block, (ad.add (j * 4)).off + 3, none⟩ = some (iv im[j].minor)) → Below W'.heap.size W' W2 → (Below wr.heap.size wr W2 ∧ W2.cell? ⟨w.heap.size, 0, none⟩ = some (.int .i64 k.major) ∧ W2.cell? ⟨w.heap.size, 1, none⟩ = some (.int .i64 k.minor) ∧ W2.cell? ⟨w.heap.size, 2, none⟩ = some (.slice k.eA k.ex.length k.eC) ∧ W2.cell? ⟨w.heap.size + 1, 5, none⟩ = some (.slice (some ad) im.length iC) ∧ W2.cell? (ad.add (j * 4)) = some (.string im[j].mod) ∧ W2.cell? ⟨(ad.add (j * 4)).block, (ad.add (j * 4)).off + 1, none⟩ = some (.string im[j].name) ∧ W2.cell? ⟨(ad.add (j * 4)).block, (ad.add (j * 4)).off + 2, none⟩ = some (iv im[j].major) ∧ W2.cell? ⟨(ad.add (j * 4)).block, (ad.add (j * 4)).off + 3, none⟩ = some (iv im[j].minor)) := fun W' W2 ⟨b, a0, a1, a2, a5, i0, i1, i2, i3⟩ hb =>
        have s := b.size
        ⟨b.trans (hb.mono s), (hb.cell (by simp; omega)).trans a0, (hb.cell (by simp; omega)).trans a1, (hb.cell (by simp; omega)).trans a2, (hb.cell (by simp; omega)).trans a5, (hb.cell (by omega)).trans i0, (hb.cell (by simp; omega)).trans i1, (hb.cell (by simp; omega)).trans i2, (hb.cell (by simp; omega)).trans i3⟩
      have hCB : ∀ W' : World, (Below wr.heap.size wr W' ∧ W'.cell? ⟨w.heap.size, 0, none⟩ = some (.int .i64 k.major) ∧ W'.cell? ⟨w.heap.size, 1, none⟩ = some (.int .i64 k.minor) ∧ W'.cell? ⟨w.heap.size, 2, none⟩ = some (.slice k.eA k.ex.length k.eC) ∧ W'.cell? ⟨w.heap.size + 1, 5, none⟩ = some (.slice (some ad) im.length iC) ∧ W'.cell? (ad.add (j * 4)) = some (.string im[j].mod) ∧ W'.cell? ⟨(ad.add (j * 4)).block, (ad.add (j * 4)).off + 1, none⟩ = some (.string im[j].name) ∧ W'.cell? ⟨(ad.add (j * 4)).block, (ad.add (j * 4)).off + 2, none⟩ = some (iv im[j].major) ∧ W'.cell? ⟨(ad.add (j * 4)).block, (ad.add (j * 4)).off + 3, none⟩ = some (iv im[j].minor)) → Below w.heap.size w W' := fun W' hc => HX.out.trans (hc.1.mono (by omega))
      have HC0 := Lib.hid hC0
      have HCD := Lib.hid hCD
      have HCS := Lib.hid hCS
      have HCB := Lib.hid hCB
      clear hC0 hCD hCS hCB
      by_cases u : v2 = 0
      · obtain rfl := u
        have e3 := Lib.hid (e2.out rfl)
        go_wp2_with fail
        go_region_held3 (fun W' => Below wr.heap.size wr W' ∧ W'.cell? ⟨w.heap.size, 0, none⟩ = some (.int .i64 k.major) ∧ W'.cell? ⟨w.heap.size, 1, none⟩ = some (.int .i64 k.minor) ∧ W'.cell? ⟨w.heap.size, 2, none⟩ = some (.slice k.eA k.ex.length k.eC) ∧ W'.cell? ⟨w.heap.size + 1, 5, none⟩ = some (.slice (some ad) im.length iC) ∧ W'.cell? (ad.add (j * 4)) = some (.string im[j].mod) ∧ W'.cell? ⟨(ad.add (j * 4)).block, (ad.add (j * 4)).off + 1, none⟩ = some (.string im[j].name) ∧ W'.cell? ⟨(ad.add (j * 4)).block, (ad.add (j * 4)).off + 2, none⟩ = some (iv im[j].major) ∧ W'.cell? ⟨(ad.add (j * 4)).block, (ad.add (j * 4)).off + 3, none⟩ = some (iv im[j].minor)) (first | exact HC0.out | exact HCD.out _ (by assumption) | exact HCS.out _ _ (by assumption) (by assumption) | assumption) (first | (go_at_call 258; refine (cJ.out _ (HCB.out _ (by assumption))).mono ?_; rintro e w2 ⟨rfl, hb2⟩))
        clear HC0 HCD HCS HCB
        have hB2 : Below wr.heap.size wr w2 := And.left (by assumption)
        have hz3 := hB2.size
        go_wp2_with (at_builtin; refine append_int _ rfl _ _ rfl w0.heap.size (.slice vA pre.length vc) pre v1 rfl rfl (own_below HI.out hB2 (Nat.le_refl _)) (by rw [HPL.out]; omega) (by omega) ?_; intro v' w4 hin4 hb4)
        go_roundw
        case rel => exact ⟨j + 1, pre ++ [v1], by omega, by go_num, by simp [HPL.out], hin4, e3.out, (HB.out.trans (hB2.mono (by omega))).trans hb4⟩
        case measure => (simp [intOf]; try omega)
      · have u' : (v2 != 0) = true := by simp [u]
        have e3 := Lib.hid (e1.out u)
        clear u
        go_wp2_with fail
        go_region_held3 (fun W' => Below wr.heap.size wr W' ∧ W'.cell? ⟨w.heap.size, 0, none⟩ = some (.int .i64 k.major) ∧ W'.cell? ⟨w.heap.size, 1, none⟩ = some (.int .i64 k.minor) ∧ W'.cell? ⟨w.heap.size, 2, none⟩ = some (.slice k.eA k.ex.length k.eC) ∧ W'.cell? ⟨w.heap.size + 1, 5, none⟩ = some (.slice (some ad) im.length iC) ∧ W'.cell? (ad.add (j * 4)) = some (.string im[j].mod) ∧ W'.cell? ⟨(ad.add (j * 4)).block, (ad.add (j * 4)).off + 1, none⟩ = some (.string im[j].name) ∧ W'.cell? ⟨(ad.add (j * 4)).block, (ad.add (j * 4)).off + 2, none⟩ = some (iv im[j].major) ∧ W'.cell? ⟨(ad.add (j * 4)).block, (ad.add (j * 4)).off + 3, none⟩ = some (iv im[j].minor)) (first | exact HC0.out | exact HCD.out _ (by assumption) | exact HCS.out _ _ (by assumption) (by assumption) | assumption) (first | (go_at_call 258; refine (cJ.out _ (HCB.out _ (by assumption))).mono ?_; rintro e w2 ⟨rfl, hb2⟩))
        clear HC0 HCD HCS HCB
        have hB2 : Below wr.heap.size wr w2 := And.left (by assumption)
        have hz3 := hB2.size
        go_wp2_with fail
        go_ret2
        exact ⟨⟨none, 0, by rw [← e3.out]; rfl, by rw [← e3.out]; exact Row.nil⟩, HX.out.trans (hB2.mono (by omega))⟩
    · have e1 := Lib.hid ((glue_end (k := k) (l := l) (pre := pre) hlt).symm.trans HG.out)
      go_wp2_with fail
      go_ret2
      exact ⟨⟨vA, vc, by rw [← e1.out]; rfl, by rw [← e1.out]; exact hrow⟩, HX.out⟩

end Go.Proofs.YtjiedaialianmaaGreat
end

section

namespace Go.Proofs.YtjiedaialianmaaGreat
open Go.RowKit

theorem row_block {α : Type} {enc : α → List Value} {k : Nat} (hk : ∀ x, (enc x).length = k) {w : World} {b : Nat} {cs : Array Value} {t : TypeId} {l : List α} (h : w.heap[b]? = some (.cells cs t (0, 0))) (hc : cs.toList = l.flatMap enc) : Row enc k w (some ⟨b, 0, none⟩) l := by
  have hlt : b < w.heap.size := by
    rcases Nat.lt_or_ge b w.heap.size with hlt | hge
    · exact hlt
    · rw [Array.getElem?_eq_none hge] at h; cases h
  refine ⟨by rw [flat_length hk], fun _ => ⟨_, rfl, hlt, fun j u hu => ?_⟩⟩
  have e : (⟨b, 0, none⟩ : Addr).add j = ⟨b, j, none⟩ := by unfold Addr.add; split <;> simp_all
  rw [e, cell_of_row _ _ _ _ _ _ h, ← hu, ← hc]
  simp

def kern (A : Option Addr) (c : Nat) : Krn := ⟨0, 0, [⟨⟨#[107]⟩, 2⟩], A, c⟩
def libM (eA iA pA : Option Addr) (eC iC pC : Nat) : Mod := ⟨⟨#[108, 105, 98]⟩, 1, 2, ⟨#[97, 98, 99, 100, 101, 102, 103, 104]⟩, [⟨⟨#[102]⟩, 4⟩], [], [], eA, eC, iA, iC, pA, pC⟩
def appM (eA iA pA : Option Addr) (eC iC pC : Nat) : Mod := ⟨⟨#[97, 112, 112]⟩, 0, 0, ⟨#[46, 46, 46, 46, 46, 46, 46, 46]⟩, [], [⟨⟨#[108, 105, 98]⟩, ⟨#[102]⟩, 1, 1⟩, ⟨kernelBytes, ⟨#[107]⟩, 0, 0⟩], [⟨1, 0, 0, 1⟩, ⟨5, 4, 1, 0⟩], eA, eC, iA, iC, pA, pC⟩

theorem Tryz.sizeKernel : (Tryz.prog.info? 24).map (·.size) = some 3 := by kernel_rfl
theorem Tryz.sizeModule : (Tryz.prog.info? 70).map (·.size) = some 7 := by kernel_rfl

set_option maxHeartbeats 1000000 in
set_option maxRecDepth 100000 in
theorem kernel_any (w : World) : Calls Tryz.prog 69 #[] w fun e w' => (∃ A c, e = .returned (kern A c).v ∧ (kern A c).ok w') ∧ Below w.heap.size w w' := by
  go_enter Tryz.func69, Tryz.ntmps69
  go_wp2_with fail
  try simp only [Exit.inBlock, Exit.then]
  have h0 := heap_alloc2_old w (.cells #[.int .i64 0, .int .i64 0, .slice (some ⟨w.heap.size + 1, 0, none⟩) 1 1] 24) (.cells #[.string ⟨#[107]⟩, .int .i64 2] 159)
  have h1 := heap_alloc2_new w (.cells #[.int .i64 0, .int .i64 0, .slice (some ⟨w.heap.size + 1, 0, none⟩) 1 1] 24) (.cells #[.string ⟨#[107]⟩, .int .i64 2] 159)
  refine bodyPost_ret (results_cell_row rfl _ _ w.heap.size 24 _ (0, 0) _ rfl h0 Tryz.underlying24 rfl Tryz.sizeKernel) rfl ?_
  refine ⟨⟨some ⟨w.heap.size + 1, 0, none⟩, 1, rfl, ⟨row_block (enc := Exp.cells) (k := 2) (fun _ => rfl) h1 rfl, by unfold big kern; simp, ?_⟩⟩, ((Below.refl _ _).alloc (Nat.le_refl _) _).alloc (by simp) _⟩
  intro x hx
  simp only [kern, List.mem_singleton] at hx
  subst hx
  unfold big; decide

set_option maxHeartbeats 1000000 in
set_option maxRecDepth 100000 in
theorem lib_any (w : World) : Calls Tryz.prog 112 #[] w fun e w' => (∃ eA iA pA eC iC pC, e = .returned (libM eA iA pA eC iC pC).v ∧ (libM eA iA pA eC iC pC).ok w') ∧ Below w.heap.size w w' := by
  go_enter Tryz.func112, Tryz.ntmps112
  go_wp2_with fail
  try simp only [Exit.inBlock, Exit.then]
  have h0 := fun cs => heap_alloc2_old w (.cells cs 70) (.cells #[.string ⟨#[102]⟩, .int .i64 4] 159)
  have h1 := fun cs => heap_alloc2_new w (.cells cs 70) (.cells #[.string ⟨#[102]⟩, .int .i64 4] 159)
  refine bodyPost_ret (results_cell_row rfl _ _ w.heap.size 70 _ (0, 0) _ rfl (h0 _) Tryz.underlying70 rfl Tryz.sizeModule) rfl ?_
  refine ⟨⟨some ⟨w.heap.size + 1, 0, none⟩, none, none, 1, 0, 0, rfl, ⟨⟨row_block (enc := Exp.cells) (k := 2) (fun _ => rfl) (h1 _) rfl, by unfold big libM; simp, ?_⟩, ⟨Row.nil, by unfold big libM; simp, by simp [libM]⟩, ⟨Row.nil, by unfold big libM; simp⟩, by show (⟨#[108, 105, 98]⟩ : ByteArray).size ≤ big; decide, by show (⟨#[97, 98, 99, 100, 101, 102, 103, 104]⟩ : ByteArray).size ≤ big; decide⟩⟩, ((Below.refl _ _).alloc (Nat.le_refl _) _).alloc (by simp) _⟩
  intro x hx
  simp only [libM, List.mem_singleton] at hx
  subst hx
  unfold big; decide

theorem heap_alloc3_mid (w : World) (A B C : Obj) : (((w.alloc A).alloc B).alloc C).heap[w.heap.size + 1]? = some B := by
  rw [Below.heap_alloc _ _ _ (by simp)]; exact heap_alloc2_new w A B
theorem heap_alloc3_old (w : World) (A B C : Obj) : (((w.alloc A).alloc B).alloc C).heap[w.heap.size]? = some A := by
  rw [Below.heap_alloc _ _ _ (by simp; omega)]; exact heap_alloc2_old w A B
theorem heap_alloc3_new (w : World) (A B C : Obj) : (((w.alloc A).alloc B).alloc C).heap[w.heap.size + 1 + 1]? = some C := by
  have := heap_alloc_new ((w.alloc A).alloc B) C
  simpa using this

set_option maxHeartbeats 1000000 in
set_option maxRecDepth 100000 in
theorem app_any (w : World) : Calls Tryz.prog 114 #[] w fun e w' => (∃ eA iA pA eC iC pC, e = .returned (appM eA iA pA eC iC pC).v ∧ (appM eA iA pA eC iC pC).ok w') ∧ Below w.heap.size w w' := by
  go_enter Tryz.func114, Tryz.ntmps114
  go_wp2_with fail
  try simp only [Exit.inBlock, Exit.then]
  have h0 := fun a b c => heap_alloc3_old w (.cells a 70) (.cells b 173) (.cells c 180)
  have h1 := fun a b c => heap_alloc3_mid w (.cells a 70) (.cells b 173) (.cells c 180)
  have h2 := fun a b c => heap_alloc3_new w (.cells a 70) (.cells b 173) (.cells c 180)
  refine bodyPost_ret (results_cell_row rfl _ _ w.heap.size 70 _ (0, 0) _ rfl (h0 _ _ _) Tryz.underlying70 rfl Tryz.sizeModule) rfl ?_
  refine ⟨⟨none, some ⟨w.heap.size + 1, 0, none⟩, some ⟨w.heap.size + 1 + 1, 0, none⟩, 0, 2, 2, rfl, ⟨⟨Row.nil, by unfold big appM; simp, by simp [appM]⟩, ⟨row_block (enc := Imp.cells) (k := 4) (fun _ => rfl) (h1 _ _ _) rfl, by unfold big appM; simp, ?_⟩, ⟨row_block (enc := Pat.cells) (k := 4) (fun _ => rfl) (h2 _ _ _) rfl, by unfold big appM; simp⟩, by show (⟨#[97, 112, 112]⟩ : ByteArray).size ≤ big; decide, by show (⟨#[46, 46, 46, 46, 46, 46, 46, 46]⟩ : ByteArray).size ≤ big; decide⟩⟩, (((Below.refl _ _).alloc (Nat.le_refl _) _).alloc (by simp) _).alloc (by simp; omega) _⟩
  intro x hx
  simp only [appM, List.mem_cons, List.not_mem_nil, or_false] at hx
  rcases hx with rfl | rfl <;> (unfold big; decide)

set_option maxHeartbeats 1000000 in
set_option maxRecDepth 100000 in
theorem pair_any (w : World) : Calls Tryz.prog 72 #[] w fun e w' => (∃ A c a1 a2 a3 a4 a5 a6 b1 b2 b3 b4 b5 b6, e = .returned (.slice A 2 c) ∧ PlsOk w' A [⟨appM a1 a2 a3 a4 a5 a6, 1⟩, ⟨libM b1 b2 b3 b4 b5 b6, 4⟩]) ∧ Below w.heap.size w w' := by
  go_enter Tryz.func72, Tryz.ntmps72
  go_wp2_with (first | (go_at_call 114; refine (app_any _).mono ?_; rintro e w1 ⟨⟨a1, a2, a3, a4, a5, a6, rfl, hok1⟩, hb1⟩) | (go_at_call 112; refine (lib_any _).mono ?_; rintro e w2 ⟨⟨b1, b2, b3, b4, b5, b6, rfl, hok2⟩, hb2⟩))
  go_ret
  have hs1 := hb1.size
  have hs2 := hb2.size
  have hb3 := fun cs => (Below.refl w2.heap.size w2).alloc (Nat.le_refl _) (.cells cs 83)
  refine ⟨⟨some ⟨w2.heap.size, 0, none⟩, 2, a1, a2, a3, a4, a5, a6, b1, b2, b3, b4, b5, b6, rfl, row_block (enc := Plc.cells) (k := 8) (fun _ => rfl) (heap_alloc_new w2 _) rfl, by unfold big; simp, ?_⟩, (hb1.trans (hb2.mono hs1)).trans ((hb3 _).mono (by omega))⟩
  intro x hx
  simp only [List.mem_cons, List.not_mem_nil, or_false] at hx
  rcases hx with rfl | rfl
  · exact (hok1.below hb2).below (hb3 _)
  · exact hok2.below (hb3 _)

end Go.Proofs.YtjiedaialianmaaGreat
end
