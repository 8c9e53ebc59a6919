import Derived.Test.YtjnfemcfohflnaaGreatG10
import Derived.Test.YtjnfemcfohflnaaGreatG11
import Derived.Test.YtjnfemcfohflnaaGreatG08
/- RegistryWhole: of a registry that is right each import is there, none needs itself, no two modules lie in one sector, and all bytes can be told. No condition. -/
namespace Go.Proofs.YtjnfemcfohflnaaGreat
open Go.ChangeShapes Go.WideShapes Go.ChangeAt Go.RowKit Go.WideMaps Go.WideElems
open Go.ChangeMaps (setBlock shut_map_nil open_string shut_string keptBut_setBlock frozen?_setBlock heap_setBlock_same)
open Gs (Tx)

theorem runs_len : ∀ (l : List Plc) (a : Int), (runsFrom a l).length ≤ l.length + 1
  | [], a => by show (gapRun a 16).length ≤ 1; unfold gapRun; split <;> simp
  | x :: l, a => by
    show (gapRun a x.first ++ runsFrom (endOf x) l).length ≤ _
    have := runs_len l (endOf x)
    have h : (gapRun a x.first).length ≤ 1 := by unfold gapRun; split <;> simp
    rw [List.length_append, List.length_cons]; omega
theorem rg_order {k : Krn} {l : List Plc} (h : rgErr k l = 0) : orderErr l = 0 ∧ (orderT l).length = l.length := by
  obtain ⟨h1, h2, _⟩ := rgErr_ok h
  have hg := link_gr h1
  have hs := link_sorted h1
  rw [h2] at hs
  have ho : orderErr l = 0 := by
    unfold orderErr
    rw [if_neg (by omega)]
    cases hq : sortedT l with
    | none => rw [hq] at hs; simp at hs
    | some o => rfl
  exact ⟨ho, by rw [(order_perm ho).1.length_eq, txs_length]⟩
theorem rg_free {k : Krn} {l : List Plc} (h : rgErr k l = 0) : regErr l = 0 ∧ (freeOf l).length ≤ l.length + 1 := by
  have hr := (linkErr_ok (rgErr_ok h).1).2.1
  refine ⟨hr, ?_⟩
  unfold freeOf
  rw [if_neg (by omega)]
  exact runs_len l 0
theorem rg_area {k : Krn} {l : List Plc} (h : rgErr k l = 0) : areaErr k l = 0 ∧ (bs (areaT k l)).size = 1024 := by
  obtain ⟨h1, h2, h3⟩ := rgErr_ok h
  have hr := (linkErr_ok h1).2.1
  refine ⟨by unfold areaErr; rw [if_neg (by omega)]; exact h3, ?_⟩
  have ht : areaT k l = (areaGo k l l 0).1 := by unfold areaT; rw [if_neg (by omega)]
  have := (area_law (show areaGo k l l 0 = (areaT k l, 0) from Prod.ext ht.symm h3) (reg_row hr).2.2).1
  show (areaT k l).length = 1024
  omega
theorem rg_all {k : Krn} {l : List Plc} (h : rgErr k l = 0) {x : Plc} (hx : x ∈ l) : (allOf k l x.m).2 = 0 ∧ (allOf k l x.m).1.length = x.m.im.length := by
  obtain ⟨h1, h2, h3⟩ := rgErr_ok h
  have hl := linkErr_ok h1
  have hm := (plc_link h1 x hx).1
  have hi := area_all.1 h3 x hx
  have ha : (addrsOf k l x.m.im).2 = 0 := by
    unfold imgOf at hi
    by_cases e : (addrsOf k l x.m.im).2 = 0
    · exact e
    · rw [if_pos e] at hi; exact absurd hi e
  have e : allOf k l x.m = addrsOf k l x.m.im := by
    unfold allOf
    rw [if_neg (by omega), if_neg (by omega)]
  rw [e]
  exact ⟨ha, addrs_length ha⟩

set_option maxRecDepth 100000 in
set_option maxHeartbeats 8000000 in
theorem RegistryWhole_any (k : Krn) (A : Option Addr) (l : List Plc) (c : Nat) (w : World) (hk : k.ok w) (h : PlsOk w A l) :
    Calls Tryz.prog 7 #[.agg #[.int .i64 k.major, .int .i64 k.minor, .slice k.eA k.ex.length k.eC, .slice A l.length c]] w fun e w' => e = .returned (.bool true) ∧ Below w.heap.size w w' := by
  obtain ⟨w0, hw0⟩ : ∃ w0, w0 = w.alloc (.cells #[.int .i64 k.major, .int .i64 k.minor, .slice k.eA k.ex.length k.eC, .slice A l.length c] 27) := ⟨_, rfl⟩
  obtain ⟨g0, g1, g2, g3, hz, hb0⟩ := box4 hw0
  have HR0 := Lib.hid (show w0.heap[w.heap.size]? = some (.cells #[.int .i64 k.major, .int .i64 k.minor, .slice k.eA k.ex.length k.eC, .slice A l.length c] 27 (0, 0)) by rw [hw0]; exact heap_alloc_new w _)
  have H0 := Lib.hid hb0
  have hw0' := hw0.symm
  have HP := Lib.hid h
  have HK := Lib.hid hk
  have hlen := h.len
  unfold big at hlen
  have HZ0 := Lib.hid (show w.heap.size < w0.heap.size by omega)
  have c1 := Lib.hid (fun W (hb : Below w.heap.size w W) => RegCheck_any k A c l W (hk.below hb) (h.below hb))
  have c2 := Lib.hid (fun (e : rgErr k l = 0) W (hb : Below w.heap.size w W) => show Calls Tryz.prog 31 #[.slice A l.length c] W fun e w' => (∃ A' c', e = .returned (.tuple #[.slice A' l.length c', .int .i64 0])) ∧ Below W.heap.size W w' from
    (Order_any A c l W (h.below hb)).mono fun e' w' ⟨⟨v, h1, h2⟩, h3⟩ => by
      obtain ⟨A', c', hv, _⟩ := h2.form
      rw [(rg_order e).2] at hv
      exact ⟨⟨A', c', by rw [h1, hv, (rg_order e).1]⟩, h3⟩)
  have c3 := Lib.hid (fun W (hb : Below w.heap.size w W) => Free_any A c l W (h.below hb))
  have c4 := Lib.hid (fun W (hb : Below w.heap.size w W) => Area_any k A c l W (hk.below hb) (h.below hb))
  obtain ⟨E, hE⟩ : ∃ E, E = rgErr k l := ⟨_, rfl⟩
  have HE := Lib.hid hE
  rw [← hE] at c1
  clear hw0 hb0 hz h hk hE
  go_enter Tryz.func7, Tryz.ntmps7
  go_wp2_with fail
  refine (registryBegun_any _).mono ?_; rintro e w1 ⟨rfl, hb1⟩
  go_wp2_with fail
  refine (resolveBegun_any _).mono ?_; rintro e w2 ⟨rfl, hb2⟩
  go_wp2_with fail
  refine (graphBegun_any _).mono ?_; rintro e w3 ⟨rfl, hb3⟩
  go_wp2_with fail
  refine (regionBegun_any _).mono ?_; rintro e w4 ⟨rfl, hb4⟩
  go_wp2_with fail
  refine (linkBegun_any _).mono ?_; rintro e w5 ⟨rfl, hb5⟩
  have HW5 := Lib.hid (show Below w0.heap.size w0 w5 from (((hb1.trans (hb2.mono hb1.size)).trans (hb3.mono (Nat.le_trans hb1.size hb2.size))).trans (hb4.mono (Nat.le_trans hb1.size (Nat.le_trans hb2.size hb3.size)))).trans (hb5.mono (Nat.le_trans hb1.size (Nat.le_trans hb2.size (Nat.le_trans hb3.size hb4.size)))))
  have HR5 := Lib.hid ((HW5.out.block w.heap.size HZ0.out).trans HR0.out)
  have HB5 := Lib.hid (H0.out.trans (HW5.out.mono H0.out.size))
  obtain ⟨k0, k1, k2, k3⟩ : w5.cell? ⟨w.heap.size, 0, none⟩ = some (.int .i64 k.major) ∧ w5.cell? ⟨w.heap.size, 1, none⟩ = some (.int .i64 k.minor) ∧ w5.cell? ⟨w.heap.size, 2, none⟩ = some (.slice k.eA k.ex.length k.eC) ∧ w5.cell? ⟨w.heap.size, 3, none⟩ = some (.slice A l.length c) := ⟨heap_cell HR5.out 0, heap_cell HR5.out 1, heap_cell HR5.out 2, heap_cell HR5.out 3⟩
  clear hb1 hb2 hb3 hb4 hb5 g0 g1 g2 g3
  go_wp2_with fail
  refine (c1.out _ HB5.out).mono ?_; rintro e w6 ⟨rfl, hb6⟩
  by_cases t1 : E = 0
  · subst t1
    have HRG := Lib.hid HE.out.symm
    have c2 := c2.out HE.out.symm
    have d2 := Lib.hid c2
    clear c2
    have hF := (rg_free HE.out.symm).2
    have hF1 := (rg_free HE.out.symm).1
    obtain ⟨hT1, hT2⟩ := rg_area HE.out.symm
    rw [hF1] at c3
    rw [hT1] at c4
    obtain ⟨T, hT⟩ : ∃ T, T = bs (areaT k l) := ⟨_, rfl⟩
    rw [← hT] at c4 hT2
    obtain ⟨F, hFF⟩ : ∃ F, F = (freeOf l).length := ⟨_, rfl⟩
    rw [← hFF] at c3 hF
    have hF2 : ¬ ((l.length : Int) + 1 < F) := by omega
    have hF3 : IntKind.i64.wrap ((l.length : Int) + 1) = (l.length : Int) + 1 := IntWalk.i64_in _ (by omega)
    have HR6 := Lib.hid ((hb6.block w.heap.size (Array.getElem?_eq_some_iff.1 HR5.out).1).trans HR5.out)
    have HB6 := Lib.hid (HB5.out.trans (hb6.mono HB5.out.size))
    have HW6 := Lib.hid (HW5.out.trans (hb6.mono HW5.out.size))
    have m3 := heap_cell HR6.out 3
    simp only [List.getElem?_toArray, List.getElem?_cons_zero, List.getElem?_cons_succ] at m3
    clear hb6 k0 k1 k2 k3 hF1 hT1 hT hFF hF
    go_wp2_with fail
    refine (d2.out _ HB6.out).mono ?_; rintro e w7 ⟨⟨A7, c7, rfl⟩, hb7⟩
    have HR7 := Lib.hid ((hb7.block w.heap.size (Array.getElem?_eq_some_iff.1 HR6.out).1).trans HR6.out)
    have HB7 := Lib.hid (HB6.out.trans (hb7.mono HB6.out.size))
    have HW7 := Lib.hid (HW6.out.trans (hb7.mono HW6.out.size))
    have n3 := heap_cell HR7.out 3
    simp only [List.getElem?_toArray, List.getElem?_cons_zero, List.getElem?_cons_succ] at n3
    clear hb7 m3
    go_wp2_with fail
    refine (c3.out _ HB7.out).mono ?_; rintro e w8 ⟨⟨A8, c8, rfl, _⟩, hb8⟩
    have HR8 := Lib.hid ((hb8.block w.heap.size (Array.getElem?_eq_some_iff.1 HR7.out).1).trans HR7.out)
    have HB8 := Lib.hid (HB7.out.trans (hb8.mono HB7.out.size))
    have HW8 := Lib.hid (HW7.out.trans (hb8.mono HW7.out.size))
    have k0 := heap_cell HR8.out 0
    have k1 := heap_cell HR8.out 1
    have k2 := heap_cell HR8.out 2
    have k3 := heap_cell HR8.out 3
    simp only [List.getElem?_toArray, List.getElem?_cons_zero, List.getElem?_cons_succ] at k0 k1 k2 k3
    clear hb8 n3
    go_wp2_with fail
    refine (c4.out _ HB8.out).mono ?_; rintro e w9 ⟨rfl, hb9⟩
    have HR9 := Lib.hid ((hb9.block w.heap.size (Array.getElem?_eq_some_iff.1 HR8.out).1).trans HR8.out)
    have HB9 := Lib.hid (HB8.out.trans (hb9.mono HB8.out.size))
    have HW9 := Lib.hid (HW8.out.trans (hb9.mono HW8.out.size))
    have m3 := heap_cell HR9.out 3
    simp only [List.getElem?_toArray, List.getElem?_cons_zero, List.getElem?_cons_succ] at m3
    clear hb9 k0 k1 k2 k3
    go_wp2_with fail
    go_loopw [9] (fun i wr => ∃ j : Nat, j ≤ l.length ∧ i = .int .i64 j ∧ Below w9.heap.size w9 wr) (fun i _ => l.length - (intOf i).toNat)
    case atStart => exact ⟨0, by omega, rfl, Below.refl _ _⟩
    case round =>
      obtain ⟨j, hj, rfl, hb⟩ := hrel
      have HB := Lib.hid (HB9.out.trans (hb.mono HB9.out.size))
      have HWR := Lib.hid hb
      have HRR := Lib.hid ((hb.block w.heap.size (Array.getElem?_eq_some_iff.1 HR9.out).1).trans HR9.out)
      have k0 := heap_cell HRR.out 0
      have k1 := heap_cell HRR.out 1
      have k2 := heap_cell HRR.out 2
      have k3 := heap_cell HRR.out 3
      simp only [List.getElem?_toArray, List.getElem?_cons_zero, List.getElem?_cons_succ] at k0 k1 k2 k3
      have hzr := (Array.getElem?_eq_some_iff.1 HRR.out).1
      clear hb
      by_cases hlt : j < l.length
      · have hlt' : (j : Int) < l.length := by omega
        obtain ⟨a1, a2⟩ := rg_all HRG.out (List.getElem_mem hlt)
        obtain ⟨ad, rfl, hab, p0, p1, p2, p3, p4, p5, p6, p7⟩ := plc_at HP.out.row HB.out j hlt
        have habr : (ad.add (j * 8)).block < wr.heap.size := by rw [block_of_add]; have := HB.out.size; omega
        have hx := HP.out.each l[j] (List.getElem_mem _)
        obtain ⟨y, hy⟩ : ∃ y, y = l[j]'hlt := ⟨_, rfl⟩
        simp only [← hy] at a1 a2 p0 p1 p2 p3 p4 p5 p6 p7 hx
        have c5 := Lib.hid (fun W (hb : Below w.heap.size w W) => All_any k (some ad) c l y.m W (HK.out.below hb) (HP.out.below hb) (hx.below hb))
        rw [a1, a2] at c5
        have KJ := Lib.hid (fun W (hbW : Below w.heap.size w W) => hy ▸ plc_at HP.out.row hbW j hlt)
        have hj0 : ¬ (l.length : Int) ≤ j := by omega
        clear a1 a2 hx hy
        have HC0 := Lib.hid (show Below wr.heap.size wr wr ∧ wr.cell? ⟨w.heap.size, 0, none⟩ = some (.int .i64 k.major) ∧ wr.cell? ⟨w.heap.size, 1, none⟩ = some (.int .i64 k.minor) ∧ wr.cell? ⟨w.heap.size, 2, none⟩ = some (.slice k.eA k.ex.length k.eC) ∧ wr.cell? ⟨w.heap.size, 3, none⟩ = some (.slice (some ad) l.length c) ∧ wr.cell? (ad.add (j * 8)) = some (.string y.m.name) ∧ wr.cell? ⟨(ad.add (j * 8)).block, (ad.add (j * 8)).off + 1, none⟩ = some (.int .i64 y.m.major) ∧ wr.cell? ⟨(ad.add (j * 8)).block, (ad.add (j * 8)).off + 2, none⟩ = some (.int .i64 y.m.minor) ∧ wr.cell? ⟨(ad.add (j * 8)).block, (ad.add (j * 8)).off + 3, none⟩ = some (.string y.m.text) ∧ wr.cell? ⟨(ad.add (j * 8)).block, (ad.add (j * 8)).off + 4, none⟩ = some (.slice y.m.eA y.m.ex.length y.m.eC) ∧ wr.cell? ⟨(ad.add (j * 8)).block, (ad.add (j * 8)).off + 5, none⟩ = some (.slice y.m.iA y.m.im.length y.m.iC) ∧ wr.cell? ⟨(ad.add (j * 8)).block, (ad.add (j * 8)).off + 6, none⟩ = some (.slice y.m.pA y.m.pa.length y.m.pC) ∧ wr.cell? ⟨(ad.add (j * 8)).block, (ad.add (j * 8)).off + 7, none⟩ = some (.int .i64 y.first) from ⟨Below.refl _ _, by assumption, by assumption, by assumption, by assumption, by assumption, by assumption, by assumption, by assumption, by assumption, by assumption, by assumption, by assumption⟩)
        have HCD := Lib.hid (show ∀ W' : World, (Below wr.heap.size wr W' ∧ W'.cell? ⟨w.heap.size, 0, none⟩ = some (.int .i64 k.major) ∧ W'.cell? ⟨w.heap.size, 1, none⟩ = some (.int .i64 k.minor) ∧ W'.cell? ⟨w.heap.size, 2, none⟩ = some (.slice k.eA k.ex.length k.eC) ∧ W'.cell? ⟨w.heap.size, 3, none⟩ = some (.slice (some ad) l.length c) ∧ W'.cell? (ad.add (j * 8)) = some (.string y.m.name) ∧ W'.cell? ⟨(ad.add (j * 8)).block, (ad.add (j * 8)).off + 1, none⟩ = some (.int .i64 y.m.major) ∧ W'.cell? ⟨(ad.add (j * 8)).block, (ad.add (j * 8)).off + 2, none⟩ = some (.int .i64 y.m.minor) ∧ W'.cell? ⟨(ad.add (j * 8)).block, (ad.add (j * 8)).off + 3, none⟩ = some (.string y.m.text) ∧ W'.cell? ⟨(ad.add (j * 8)).block, (ad.add (j * 8)).off + 4, none⟩ = some (.slice y.m.eA y.m.ex.length y.m.eC) ∧ W'.cell? ⟨(ad.add (j * 8)).block, (ad.add (j * 8)).off + 5, none⟩ = some (.slice y.m.iA y.m.im.length y.m.iC) ∧ W'.cell? ⟨(ad.add (j * 8)).block, (ad.add (j * 8)).off + 6, none⟩ = some (.slice y.m.pA y.m.pa.length y.m.pC) ∧ W'.cell? ⟨(ad.add (j * 8)).block, (ad.add (j * 8)).off + 7, none⟩ = some (.int .i64 y.first)) → (Below wr.heap.size wr W'.drew ∧ W'.drew.cell? ⟨w.heap.size, 0, none⟩ = some (.int .i64 k.major) ∧ W'.drew.cell? ⟨w.heap.size, 1, none⟩ = some (.int .i64 k.minor) ∧ W'.drew.cell? ⟨w.heap.size, 2, none⟩ = some (.slice k.eA k.ex.length k.eC) ∧ W'.drew.cell? ⟨w.heap.size, 3, none⟩ = some (.slice (some ad) l.length c) ∧ W'.drew.cell? (ad.add (j * 8)) = some (.string y.m.name) ∧ W'.drew.cell? ⟨(ad.add (j * 8)).block, (ad.add (j * 8)).off + 1, none⟩ = some (.int .i64 y.m.major) ∧ W'.drew.cell? ⟨(ad.add (j * 8)).block, (ad.add (j * 8)).off + 2, none⟩ = some (.int .i64 y.m.minor) ∧ W'.drew.cell? ⟨(ad.add (j * 8)).block, (ad.add (j * 8)).off + 3, none⟩ = some (.string y.m.text) ∧ W'.drew.cell? ⟨(ad.add (j * 8)).block, (ad.add (j * 8)).off + 4, none⟩ = some (.slice y.m.eA y.m.ex.length y.m.eC) ∧ W'.drew.cell? ⟨(ad.add (j * 8)).block, (ad.add (j * 8)).off + 5, none⟩ = some (.slice y.m.iA y.m.im.length y.m.iC) ∧ W'.drew.cell? ⟨(ad.add (j * 8)).block, (ad.add (j * 8)).off + 6, none⟩ = some (.slice y.m.pA y.m.pa.length y.m.pC) ∧ W'.drew.cell? ⟨(ad.add (j * 8)).block, (ad.add (j * 8)).off + 7, none⟩ = some (.int .i64 y.first)) from fun W' ⟨b, a0, a1, a2, a3, a4, a5, a6, a7, a8, a9, a10, a11⟩ => ⟨b.drew, a0, a1, a2, a3, a4, a5, a6, a7, a8, a9, a10, a11⟩)
        have HCS := Lib.hid (show ∀ W' W2 : World, (Below wr.heap.size wr W' ∧ W'.cell? ⟨w.heap.size, 0, none⟩ = some (.int .i64 k.major) ∧ W'.cell? ⟨w.heap.size, 1, none⟩ = some (.int .i64 k.minor) ∧ W'.cell? ⟨w.heap.size, 2, none⟩ = some (.slice k.eA k.ex.length k.eC) ∧ W'.cell? ⟨w.heap.size, 3, none⟩ = some (.slice (some ad) l.length c) ∧ W'.cell? (ad.add (j * 8)) = some (.string y.m.name) ∧ W'.cell? ⟨(ad.add (j * 8)).block, (ad.add (j * 8)).off + 1, none⟩ = some (.int .i64 y.m.major) ∧ W'.cell? ⟨(ad.add (j * 8)).block, (ad.add (j * 8)).off + 2, none⟩ = some (.int .i64 y.m.minor) ∧ W'.cell? ⟨(ad.add (j * 8)).block, (ad.add (j * 8)).off + 3, none⟩ = some (.string y.m.text) ∧ W'.cell? ⟨(ad.add (j * 8)).block, (ad.add (j * 8)).off + 4, none⟩ = some (.slice y.m.eA y.m.ex.length y.m.eC) ∧ W'.cell? ⟨(ad.add (j * 8)).block, (ad.add (j * 8)).off + 5, none⟩ = some (.slice y.m.iA y.m.im.length y.m.iC) ∧ W'.cell? ⟨(ad.add (j * 8)).block, (ad.add (j * 8)).off + 6, none⟩ = some (.slice y.m.pA y.m.pa.length y.m.pC) ∧ W'.cell? ⟨(ad.add (j * 8)).block, (ad.add (j * 8)).off + 7, none⟩ = some (.int .i64 y.first)) → Below W'.heap.size W' W2 → (Below wr.heap.size wr W2 ∧ W2.cell? ⟨w.heap.size, 0, none⟩ = some (.int .i64 k.major) ∧ W2.cell? ⟨w.heap.size, 1, none⟩ = some (.int .i64 k.minor) ∧ W2.cell? ⟨w.heap.size, 2, none⟩ = some (.slice k.eA k.ex.length k.eC) ∧ W2.cell? ⟨w.heap.size, 3, none⟩ = some (.slice (some ad) l.length c) ∧ W2.cell? (ad.add (j * 8)) = some (.string y.m.name) ∧ W2.cell? ⟨(ad.add (j * 8)).block, (ad.add (j * 8)).off + 1, none⟩ = some (.int .i64 y.m.major) ∧ W2.cell? ⟨(ad.add (j * 8)).block, (ad.add (j * 8)).off + 2, none⟩ = some (.int .i64 y.m.minor) ∧ W2.cell? ⟨(ad.add (j * 8)).block, (ad.add (j * 8)).off + 3, none⟩ = some (.string y.m.text) ∧ W2.cell? ⟨(ad.add (j * 8)).block, (ad.add (j * 8)).off + 4, none⟩ = some (.slice y.m.eA y.m.ex.length y.m.eC) ∧ W2.cell? ⟨(ad.add (j * 8)).block, (ad.add (j * 8)).off + 5, none⟩ = some (.slice y.m.iA y.m.im.length y.m.iC) ∧ W2.cell? ⟨(ad.add (j * 8)).block, (ad.add (j * 8)).off + 6, none⟩ = some (.slice y.m.pA y.m.pa.length y.m.pC) ∧ W2.cell? ⟨(ad.add (j * 8)).block, (ad.add (j * 8)).off + 7, none⟩ = some (.int .i64 y.first)) from fun W' W2 ⟨b, a0, a1, a2, a3, a4, a5, a6, a7, a8, a9, a10, a11⟩ hb => have s := b.size; ⟨b.trans (hb.mono s), (hb.cell (by first | omega | (simp; omega) | (simp only [block_of_add]; omega))).trans a0, (hb.cell (by first | omega | (simp; omega) | (simp only [block_of_add]; omega))).trans a1, (hb.cell (by first | omega | (simp; omega) | (simp only [block_of_add]; omega))).trans a2, (hb.cell (by first | omega | (simp; omega) | (simp only [block_of_add]; omega))).trans a3, (hb.cell (by first | omega | (simp; omega) | (simp only [block_of_add]; omega))).trans a4, (hb.cell (by first | omega | (simp; omega) | (simp only [block_of_add]; omega))).trans a5, (hb.cell (by first | omega | (simp; omega) | (simp only [block_of_add]; omega))).trans a6, (hb.cell (by first | omega | (simp; omega) | (simp only [block_of_add]; omega))).trans a7, (hb.cell (by first | omega | (simp; omega) | (simp only [block_of_add]; omega))).trans a8, (hb.cell (by first | omega | (simp; omega) | (simp only [block_of_add]; omega))).trans a9, (hb.cell (by first | omega | (simp; omega) | (simp only [block_of_add]; omega))).trans a10, (hb.cell (by first | omega | (simp; omega) | (simp only [block_of_add]; omega))).trans a11⟩)
        have HCA := Lib.hid (show ∀ (W' : World) (o : Obj), (Below wr.heap.size wr W' ∧ W'.cell? ⟨w.heap.size, 0, none⟩ = some (.int .i64 k.major) ∧ W'.cell? ⟨w.heap.size, 1, none⟩ = some (.int .i64 k.minor) ∧ W'.cell? ⟨w.heap.size, 2, none⟩ = some (.slice k.eA k.ex.length k.eC) ∧ W'.cell? ⟨w.heap.size, 3, none⟩ = some (.slice (some ad) l.length c) ∧ W'.cell? (ad.add (j * 8)) = some (.string y.m.name) ∧ W'.cell? ⟨(ad.add (j * 8)).block, (ad.add (j * 8)).off + 1, none⟩ = some (.int .i64 y.m.major) ∧ W'.cell? ⟨(ad.add (j * 8)).block, (ad.add (j * 8)).off + 2, none⟩ = some (.int .i64 y.m.minor) ∧ W'.cell? ⟨(ad.add (j * 8)).block, (ad.add (j * 8)).off + 3, none⟩ = some (.string y.m.text) ∧ W'.cell? ⟨(ad.add (j * 8)).block, (ad.add (j * 8)).off + 4, none⟩ = some (.slice y.m.eA y.m.ex.length y.m.eC) ∧ W'.cell? ⟨(ad.add (j * 8)).block, (ad.add (j * 8)).off + 5, none⟩ = some (.slice y.m.iA y.m.im.length y.m.iC) ∧ W'.cell? ⟨(ad.add (j * 8)).block, (ad.add (j * 8)).off + 6, none⟩ = some (.slice y.m.pA y.m.pa.length y.m.pC) ∧ W'.cell? ⟨(ad.add (j * 8)).block, (ad.add (j * 8)).off + 7, none⟩ = some (.int .i64 y.first)) → (Below wr.heap.size wr (W'.alloc o) ∧ (W'.alloc o).cell? ⟨w.heap.size, 0, none⟩ = some (.int .i64 k.major) ∧ (W'.alloc o).cell? ⟨w.heap.size, 1, none⟩ = some (.int .i64 k.minor) ∧ (W'.alloc o).cell? ⟨w.heap.size, 2, none⟩ = some (.slice k.eA k.ex.length k.eC) ∧ (W'.alloc o).cell? ⟨w.heap.size, 3, none⟩ = some (.slice (some ad) l.length c) ∧ (W'.alloc o).cell? (ad.add (j * 8)) = some (.string y.m.name) ∧ (W'.alloc o).cell? ⟨(ad.add (j * 8)).block, (ad.add (j * 8)).off + 1, none⟩ = some (.int .i64 y.m.major) ∧ (W'.alloc o).cell? ⟨(ad.add (j * 8)).block, (ad.add (j * 8)).off + 2, none⟩ = some (.int .i64 y.m.minor) ∧ (W'.alloc o).cell? ⟨(ad.add (j * 8)).block, (ad.add (j * 8)).off + 3, none⟩ = some (.string y.m.text) ∧ (W'.alloc o).cell? ⟨(ad.add (j * 8)).block, (ad.add (j * 8)).off + 4, none⟩ = some (.slice y.m.eA y.m.ex.length y.m.eC) ∧ (W'.alloc o).cell? ⟨(ad.add (j * 8)).block, (ad.add (j * 8)).off + 5, none⟩ = some (.slice y.m.iA y.m.im.length y.m.iC) ∧ (W'.alloc o).cell? ⟨(ad.add (j * 8)).block, (ad.add (j * 8)).off + 6, none⟩ = some (.slice y.m.pA y.m.pa.length y.m.pC) ∧ (W'.alloc o).cell? ⟨(ad.add (j * 8)).block, (ad.add (j * 8)).off + 7, none⟩ = some (.int .i64 y.first)) from fun W' o hc => HCS.out W' (W'.alloc o) hc ((Below.refl _ _).alloc (Nat.le_refl _) o))
        have HCX := Lib.hid (show ∀ (W' : World) (bX oX : Nat) (vX : Value), wr.heap.size ≤ bX → (Below wr.heap.size wr W' ∧ W'.cell? ⟨w.heap.size, 0, none⟩ = some (.int .i64 k.major) ∧ W'.cell? ⟨w.heap.size, 1, none⟩ = some (.int .i64 k.minor) ∧ W'.cell? ⟨w.heap.size, 2, none⟩ = some (.slice k.eA k.ex.length k.eC) ∧ W'.cell? ⟨w.heap.size, 3, none⟩ = some (.slice (some ad) l.length c) ∧ W'.cell? (ad.add (j * 8)) = some (.string y.m.name) ∧ W'.cell? ⟨(ad.add (j * 8)).block, (ad.add (j * 8)).off + 1, none⟩ = some (.int .i64 y.m.major) ∧ W'.cell? ⟨(ad.add (j * 8)).block, (ad.add (j * 8)).off + 2, none⟩ = some (.int .i64 y.m.minor) ∧ W'.cell? ⟨(ad.add (j * 8)).block, (ad.add (j * 8)).off + 3, none⟩ = some (.string y.m.text) ∧ W'.cell? ⟨(ad.add (j * 8)).block, (ad.add (j * 8)).off + 4, none⟩ = some (.slice y.m.eA y.m.ex.length y.m.eC) ∧ W'.cell? ⟨(ad.add (j * 8)).block, (ad.add (j * 8)).off + 5, none⟩ = some (.slice y.m.iA y.m.im.length y.m.iC) ∧ W'.cell? ⟨(ad.add (j * 8)).block, (ad.add (j * 8)).off + 6, none⟩ = some (.slice y.m.pA y.m.pa.length y.m.pC) ∧ W'.cell? ⟨(ad.add (j * 8)).block, (ad.add (j * 8)).off + 7, none⟩ = some (.int .i64 y.first)) → (Below wr.heap.size wr (W'.setCell ⟨bX, oX, none⟩ vX) ∧ (W'.setCell ⟨bX, oX, none⟩ vX).cell? ⟨w.heap.size, 0, none⟩ = some (.int .i64 k.major) ∧ (W'.setCell ⟨bX, oX, none⟩ vX).cell? ⟨w.heap.size, 1, none⟩ = some (.int .i64 k.minor) ∧ (W'.setCell ⟨bX, oX, none⟩ vX).cell? ⟨w.heap.size, 2, none⟩ = some (.slice k.eA k.ex.length k.eC) ∧ (W'.setCell ⟨bX, oX, none⟩ vX).cell? ⟨w.heap.size, 3, none⟩ = some (.slice (some ad) l.length c) ∧ (W'.setCell ⟨bX, oX, none⟩ vX).cell? (ad.add (j * 8)) = some (.string y.m.name) ∧ (W'.setCell ⟨bX, oX, none⟩ vX).cell? ⟨(ad.add (j * 8)).block, (ad.add (j * 8)).off + 1, none⟩ = some (.int .i64 y.m.major) ∧ (W'.setCell ⟨bX, oX, none⟩ vX).cell? ⟨(ad.add (j * 8)).block, (ad.add (j * 8)).off + 2, none⟩ = some (.int .i64 y.m.minor) ∧ (W'.setCell ⟨bX, oX, none⟩ vX).cell? ⟨(ad.add (j * 8)).block, (ad.add (j * 8)).off + 3, none⟩ = some (.string y.m.text) ∧ (W'.setCell ⟨bX, oX, none⟩ vX).cell? ⟨(ad.add (j * 8)).block, (ad.add (j * 8)).off + 4, none⟩ = some (.slice y.m.eA y.m.ex.length y.m.eC) ∧ (W'.setCell ⟨bX, oX, none⟩ vX).cell? ⟨(ad.add (j * 8)).block, (ad.add (j * 8)).off + 5, none⟩ = some (.slice y.m.iA y.m.im.length y.m.iC) ∧ (W'.setCell ⟨bX, oX, none⟩ vX).cell? ⟨(ad.add (j * 8)).block, (ad.add (j * 8)).off + 6, none⟩ = some (.slice y.m.pA y.m.pa.length y.m.pC) ∧ (W'.setCell ⟨bX, oX, none⟩ vX).cell? ⟨(ad.add (j * 8)).block, (ad.add (j * 8)).off + 7, none⟩ = some (.int .i64 y.first)) from fun W' bX oX vX hbX ⟨b, a0, a1, a2, a3, a4, a5, a6, a7, a8, a9, a10, a11⟩ => ⟨b.setCell (p := ⟨bX, oX, none⟩) hbX vX, (((Below.refl _ _).setCell (p := ⟨bX, oX, none⟩) hbX vX).cell (by first | omega | (simp; omega) | (simp only [block_of_add]; omega))).trans a0, (((Below.refl _ _).setCell (p := ⟨bX, oX, none⟩) hbX vX).cell (by first | omega | (simp; omega) | (simp only [block_of_add]; omega))).trans a1, (((Below.refl _ _).setCell (p := ⟨bX, oX, none⟩) hbX vX).cell (by first | omega | (simp; omega) | (simp only [block_of_add]; omega))).trans a2, (((Below.refl _ _).setCell (p := ⟨bX, oX, none⟩) hbX vX).cell (by first | omega | (simp; omega) | (simp only [block_of_add]; omega))).trans a3, (((Below.refl _ _).setCell (p := ⟨bX, oX, none⟩) hbX vX).cell (by first | omega | (simp; omega) | (simp only [block_of_add]; omega))).trans a4, (((Below.refl _ _).setCell (p := ⟨bX, oX, none⟩) hbX vX).cell (by first | omega | (simp; omega) | (simp only [block_of_add]; omega))).trans a5, (((Below.refl _ _).setCell (p := ⟨bX, oX, none⟩) hbX vX).cell (by first | omega | (simp; omega) | (simp only [block_of_add]; omega))).trans a6, (((Below.refl _ _).setCell (p := ⟨bX, oX, none⟩) hbX vX).cell (by first | omega | (simp; omega) | (simp only [block_of_add]; omega))).trans a7, (((Below.refl _ _).setCell (p := ⟨bX, oX, none⟩) hbX vX).cell (by first | omega | (simp; omega) | (simp only [block_of_add]; omega))).trans a8, (((Below.refl _ _).setCell (p := ⟨bX, oX, none⟩) hbX vX).cell (by first | omega | (simp; omega) | (simp only [block_of_add]; omega))).trans a9, (((Below.refl _ _).setCell (p := ⟨bX, oX, none⟩) hbX vX).cell (by first | omega | (simp; omega) | (simp only [block_of_add]; omega))).trans a10, (((Below.refl _ _).setCell (p := ⟨bX, oX, none⟩) hbX vX).cell (by first | omega | (simp; omega) | (simp only [block_of_add]; omega))).trans a11⟩)
        have HCL := Lib.hid (show ∀ W' : World, (Below wr.heap.size wr W' ∧ W'.cell? ⟨w.heap.size, 0, none⟩ = some (.int .i64 k.major) ∧ W'.cell? ⟨w.heap.size, 1, none⟩ = some (.int .i64 k.minor) ∧ W'.cell? ⟨w.heap.size, 2, none⟩ = some (.slice k.eA k.ex.length k.eC) ∧ W'.cell? ⟨w.heap.size, 3, none⟩ = some (.slice (some ad) l.length c) ∧ W'.cell? (ad.add (j * 8)) = some (.string y.m.name) ∧ W'.cell? ⟨(ad.add (j * 8)).block, (ad.add (j * 8)).off + 1, none⟩ = some (.int .i64 y.m.major) ∧ W'.cell? ⟨(ad.add (j * 8)).block, (ad.add (j * 8)).off + 2, none⟩ = some (.int .i64 y.m.minor) ∧ W'.cell? ⟨(ad.add (j * 8)).block, (ad.add (j * 8)).off + 3, none⟩ = some (.string y.m.text) ∧ W'.cell? ⟨(ad.add (j * 8)).block, (ad.add (j * 8)).off + 4, none⟩ = some (.slice y.m.eA y.m.ex.length y.m.eC) ∧ W'.cell? ⟨(ad.add (j * 8)).block, (ad.add (j * 8)).off + 5, none⟩ = some (.slice y.m.iA y.m.im.length y.m.iC) ∧ W'.cell? ⟨(ad.add (j * 8)).block, (ad.add (j * 8)).off + 6, none⟩ = some (.slice y.m.pA y.m.pa.length y.m.pC) ∧ W'.cell? ⟨(ad.add (j * 8)).block, (ad.add (j * 8)).off + 7, none⟩ = some (.int .i64 y.first)) → Below wr.heap.size wr W' from fun W' hc => hc.1)
        go_wp2_with fail
        go_region_held3 (fun W' => Below wr.heap.size wr W' ∧ W'.cell? ⟨w.heap.size, 0, none⟩ = some (.int .i64 k.major) ∧ W'.cell? ⟨w.heap.size, 1, none⟩ = some (.int .i64 k.minor) ∧ W'.cell? ⟨w.heap.size, 2, none⟩ = some (.slice k.eA k.ex.length k.eC) ∧ W'.cell? ⟨w.heap.size, 3, none⟩ = some (.slice (some ad) l.length c) ∧ W'.cell? (ad.add (j * 8)) = some (.string y.m.name) ∧ W'.cell? ⟨(ad.add (j * 8)).block, (ad.add (j * 8)).off + 1, none⟩ = some (.int .i64 y.m.major) ∧ W'.cell? ⟨(ad.add (j * 8)).block, (ad.add (j * 8)).off + 2, none⟩ = some (.int .i64 y.m.minor) ∧ W'.cell? ⟨(ad.add (j * 8)).block, (ad.add (j * 8)).off + 3, none⟩ = some (.string y.m.text) ∧ W'.cell? ⟨(ad.add (j * 8)).block, (ad.add (j * 8)).off + 4, none⟩ = some (.slice y.m.eA y.m.ex.length y.m.eC) ∧ W'.cell? ⟨(ad.add (j * 8)).block, (ad.add (j * 8)).off + 5, none⟩ = some (.slice y.m.iA y.m.im.length y.m.iC) ∧ W'.cell? ⟨(ad.add (j * 8)).block, (ad.add (j * 8)).off + 6, none⟩ = some (.slice y.m.pA y.m.pa.length y.m.pC) ∧ W'.cell? ⟨(ad.add (j * 8)).block, (ad.add (j * 8)).off + 7, none⟩ = some (.int .i64 y.first)) (first | exact HC0.out | exact HCD.out _ HC0.out | exact HCS.out _ _ (by assumption) (by assumption) | exact HCS.out _ _ HC0.out (by assumption) | exact HCS.out _ _ (HCD.out _ HC0.out) (by assumption) | exact HCS.out _ _ (HCD.out _ (by assumption)) (by assumption) | exact HCD.out _ (by assumption) | exact HCA.out _ _ (by assumption) | exact HCA.out _ _ HC0.out | exact HCA.out _ _ (HCD.out _ HC0.out) | exact HCD.out _ (HCA.out _ _ (by assumption)) | exact HCA.out _ _ (HCS.out _ _ HC0.out (by assumption)) | exact HCA.out _ _ (HCS.out _ _ (HCD.out _ HC0.out) (by assumption)) | exact HCX.out _ _ _ _ (Nat.le_refl _) (by assumption) | exact HCX.out _ _ _ _ (Nat.le_refl _) (HCS.out _ _ (HCA.out _ _ HC0.out) (by assumption)) | exact HCX.out _ _ _ _ (Nat.le_refl _) (HCS.out _ _ (HCD.out _ (HCA.out _ _ HC0.out)) (by assumption)) | assumption) (first | (go_at_call 33; (with_reducible refine (c5.out _ (HB.out.trans ((HCL.out _ (by assumption)).mono HB.out.size))).mono ?_); rintro e w10 ⟨⟨A10, c10, rfl, _⟩, hb10⟩))
        have n3 := (hb10.cell (p := ⟨w.heap.size, 3, none⟩) hzr).trans k3
        have o5 := (hb10.cell (p := ⟨(ad.add (j * 8)).block, (ad.add (j * 8)).off + 5, none⟩) habr).trans p5
        have HW10 := Lib.hid (HWR.out.trans ((HCL.out _ (by assumption)).mono HWR.out.size))
        clear hb10
        go_wp2_with fail
        go_roundw
        case rel => exact ⟨j + 1, by omega, by go_num, HW10.out⟩
        case measure => (simp [intOf]; try omega)
      · go_wp2_with fail
        go_ret
        exact ⟨rfl, HB.out⟩
  · have t1' : (E != 0) = true := by simp [t1]
    have HB6 := Lib.hid (HB5.out.trans (hb6.mono HB5.out.size))
    clear hb6 t1
    go_wp2_with fail
    go_ret
    exact ⟨rfl, HB6.out⟩

set_option maxRecDepth 100000 in
theorem registryWhole_lifted (os : Os) (started : os.Started) (H : Type) (enc : TypeId × Value → H) :
    ReturnsInHanded {} Tryz.checked os 7 .any (Rows.registryWholeSpec.pre6 enc Tryz.prog Tryz.f7 Rows.registryWholeRow.domain false) (Rows.registryWholeSpec.post enc Tryz.prog Tryz.f7 false true false false) := by
  refine returnsInHanded_of_change_sized (C := Tryz.checked) Tryz.own started (by kernel_rfl) Tryz.func7
    (ChangeSpec.witness6 (enc := enc) (C := Tryz.checked) false ⟨#[], #[.agg #[.int .i64 0, .int .i64 0, .slice none 0 0, .slice none 0 0]], []⟩ 8 (by kernel_rfl) (by kernel_rfl) (by kernel_rfl) (by kernel_rfl)) ?_
  intro W base args ds gs before hval0 hW hcnd hsz0 _
  have hval : ∀ (j : Nat) t v, Tryz.f7.params[j]? = some t → args[j]? = some v → Value.okWide Tryz.prog W .any base t v := hval0
  have hsz : (DataW.weightsEach Tryz.prog (Tryz.f7.params.toList ++ Rows.registryWholeSpec.plain.varTypes Tryz.prog) (ds ++ gs)).all (· ≤ reachBytes) = true := hsz0
  have hW' := hW
  obtain ⟨p, q, hA0, hV, rfl, hfz, hnd⟩ := hW
  have hA : DataW.TrodAll enc Tryz.prog W 0 (fun _ => true) true Tryz.f7.params.toList args.toList ds p := hA0
  rw [Tryz.params7] at hA hval hsz
  obtain ⟨v0, vs0, d0, ds0, p0, q0, hargs, rfl, rfl, h0, r0⟩ := trodAll_cons hA
  obtain ⟨rfl, rfl, rfl⟩ := trodAll_nil r0
  obtain rfl : args = #[v0] := by cases args; simp_all
  obtain ⟨rfl, rfl⟩ := trodVars_none hV
  have ft0 := fits_each hsz (j := 0) rfl rfl
  obtain ⟨rK, rA, rL, rC, rfl, okk0, okl0⟩ := open_Registry (hval 0 27 v0 rfl rfl) h0 ft0
  refine (RegistryWhole_any rK rA rL rC W okk0 okl0).mono fun e W' ⟨he, hb⟩ => ?_
  subst he
  exact ⟨_, rfl, law_post Tryz.laidOut hW' rfl (by decide +kernel) rfl Tryz.underlying4 rfl rfl rfl hb⟩

theorem registryWhole_holds : Rows.RegistryWholeSaid :=
  OpenClaim.holds_of_wide 7 Tryz.f7 rfl rfl rfl rfl rfl rfl rfl ⟨rfl, rfl, rfl, rfl, rfl⟩ rfl rfl rfl rfl rfl (by kernel_rfl) Tryz.func7 (by kernel_rfl)
    (of_decide_eq_true (by kernel_rfl)) (by unfold Func.isWrapper; first | (rw [if_pos (by decide +kernel)]; kernel_rfl) | (rw [if_neg (by decide +kernel)]; exact ⟨rfl, rfl⟩))
    (fun os started H enc _ => registryWhole_lifted os started H enc)
#print axioms registryWhole_holds


end Go.Proofs.YtjnfemcfohflnaaGreat
