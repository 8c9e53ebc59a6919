import Derived.Test.YtjiedaialianmaaGreatG16
section

namespace Go.Proofs.YtjiedaialianmaaGreat
open Go.RowKit Go.Lib

abbrev cmA (c : Cm) : Array Value := #[.int .i64 c.kind, .string c.m.name, .int .i64 c.m.major, .int .i64 c.m.minor, .string c.m.text, .slice c.m.eA c.m.ex.length c.m.eC, .slice c.m.iA c.m.im.length c.m.iC, .slice c.m.pA c.m.pa.length c.m.pC, .string c.nm]
abbrev Cm.v (c : Cm) : Value := .agg #[.int .i64 c.kind, .string c.m.name, .int .i64 c.m.major, .int .i64 c.m.minor, .string c.m.text, .slice c.m.eA c.m.ex.length c.m.eC, .slice c.m.iA c.m.im.length c.m.iC, .slice c.m.pA c.m.pa.length c.m.pC, .string c.nm]
theorem box_cm {W : World} {b : Nat} {c : Cm} (h : W.heap[b]? = some (.cells (cmA c) 102 (0, 0))) :
    W.cell? ⟨b, 0, none⟩ = some (.int .i64 c.kind) ∧ W.cell? ⟨b, 1, none⟩ = some (.string c.m.name) ∧ W.cell? ⟨b, 2, none⟩ = some (.int .i64 c.m.major) ∧ W.cell? ⟨b, 3, none⟩ = some (.int .i64 c.m.minor) ∧ W.cell? ⟨b, 4, none⟩ = some (.string c.m.text) ∧ W.cell? ⟨b, 5, none⟩ = some (.slice c.m.eA c.m.ex.length c.m.eC) ∧ W.cell? ⟨b, 6, none⟩ = some (.slice c.m.iA c.m.im.length c.m.iC) ∧ W.cell? ⟨b, 7, none⟩ = some (.slice c.m.pA c.m.pa.length c.m.pC) ∧ W.cell? ⟨b, 8, none⟩ = some (.string c.nm) :=
  ⟨heap_cell h 0, heap_cell h 1, heap_cell h 2, heap_cell h 3, heap_cell h 4, heap_cell h 5, heap_cell h 6, heap_cell h 7, heap_cell h 8⟩

set_option maxHeartbeats 4000000 in
set_option maxRecDepth 100000 in
theorem Do1_any (base bp B : Nat) (k : Krn) (A : Option Addr) (c : Nat) (l : List Plc) (cm : Cm) (w : World) (h : PlannerOk w base bp k A l c) (hB : w.heap[B]? = some (.cells (cmA cm) 102 (0, 0))) (hmB : ∀ W, Below base w W → cm.m.ok W) (hr : regErr l = 0) :
    Calls Tryz.prog 213 (#[.pointer (some ⟨bp, 0, none⟩)] ++ #[.pointer (some ⟨B, 0, none⟩)]) w (PDone w base bp k (cmPre cm l) (cmL cm l)) := by
  obtain ⟨p0, p1, p2, p3, p4, p5, p6, p7, p8⟩ := box_cm hB
  have c1 := Lib.hid (Pinstall_any base bp k A c l cm.m w h (hmB w (Below.refl _ _)) hr)
  have c2 := Lib.hid (Premove_any base bp k A c l cm.nm w h (reg_row hr).1)
  have c3 := Lib.hid (Pupgrade_any base bp k A c l cm.m w h hmB hr)
  obtain ⟨E, hE⟩ : ∃ E, E = cmPre cm l := ⟨_, rfl⟩
  obtain ⟨L, hL⟩ : ∃ L, L = cmL cm l := ⟨_, rfl⟩
  rw [← hE, ← hL]
  unfold cmPre at hE
  unfold cmL at hL
  clear h hB hmB hr
  by_cases t1 : cm.kind = 1
  · rw [if_pos t1] at hE hL
    rw [← hE, ← hL] at c1
    have t1' : (cm.kind == 1) = true := by simp [t1]
    clear hE hL t1 c2 c3
    go_enter Tryz.func213, Tryz.ntmps213
    go_wp2_with fail
    refine (c1.out).mono ?_; rintro e w8 hd
    have HD := Lib.hid hd
    obtain ⟨rfl, _⟩ := hd
    go_wp2_with fail
    go_ret
    exact HD.out
  · rw [if_neg t1] at hE hL
    have t1' : (cm.kind == 1) = false := by simp [t1]
    by_cases t2 : cm.kind = 2
    · rw [if_pos t2] at hE hL
      rw [← hE, ← hL] at c2
      have t2' : (cm.kind == 2) = true := by simp [t2]
      clear hE hL t1 t2 c1 c3
      go_enter Tryz.func213, Tryz.ntmps213
      go_wp2_with fail
      refine (c2.out).mono ?_; rintro e w8 hd
      have HD := Lib.hid hd
      obtain ⟨rfl, _⟩ := hd
      go_wp2_with fail
      go_ret
      exact HD.out
    · rw [if_neg t2] at hE hL
      rw [← hE, ← hL] at c3
      have t2' : (cm.kind == 2) = false := by simp [t2]
      clear hE hL t1 t2 c1 c2
      go_enter Tryz.func213, Tryz.ntmps213
      go_wp2_with fail
      refine (c3.out).mono ?_; rintro e w8 hd
      have HD := Lib.hid hd
      obtain ⟨rfl, _⟩ := hd
      go_wp2_with fail
      go_ret
      exact HD.out

/-- what is told of a registry and an errno beside it -/
def RgRes (w : World) (F : Int) (k : Krn) (L : List Plc) (e : Ending) (w' : World) : Prop :=
  (∃ k' A' l' c', e = .returned (.tuple #[rgV k' A' l' c', .int .i64 F]) ∧ RgIs w' w.heap.size k' A' l' c' (wK F k) (wL F L)) ∧ Below w.heap.size w w'
theorem RgRes.of_below {w w1 : World} {F : Int} {k : Krn} {L : List Plc} (hb : Below w.heap.size w w1) : ∀ e w', RgRes w1 F k L e w' → RgRes w F k L e w' :=
  fun _ _ ⟨⟨k', A', l', c', he, hr⟩, hb'⟩ => ⟨⟨k', A', l', c', he, ⟨⟨ownM_le hr.own.ex hb.size, hr.own.mods.le hb.size⟩, hr.kern, hr.mods⟩⟩, hb.trans (hb'.mono hb.size)⟩

set_option maxHeartbeats 8000000 in
set_option maxRecDepth 100000 in
theorem raw_any (k : Krn) (A : Option Addr) (c : Nat) (l : List Plc) (g : Nat) (lb : Array Value) (E : Int) (L : List Plc) (w : World) (eg : ∀ args w, (callFunc g args).run Tryz.prog w = .ok (.enter g args) w) (hk : k.ok w) (h : PlsOk w A l) (hrg : rgErr k l = 0)
    (hdo : ∀ W bp k1 A1 l1 c1, Below w.heap.size w W → bares l1 = bares l → PlannerOk W w.heap.size bp k1 A1 l1 c1 → Calls Tryz.prog g (#[.pointer (some ⟨bp, 0, none⟩)] ++ lb) W (PDone W w.heap.size bp k1 E L)) :
    Calls Tryz.prog 212 #[rgV k A l c, .func (.func g) #[] lb] w (RgRes w (if E ≠ 0 then E else rgErr k L) k L) := by
  obtain ⟨w0, hw0⟩ : ∃ w0, w0 = w.alloc (.cells #[.int .i64 k.major, .int .i64 k.minor, .slice k.eA k.ex.length k.eC, .slice A l.length c] 39) := ⟨_, rfl⟩
  obtain ⟨g0, g1, g2, g3, hz0, hb0⟩ := box4 hw0
  obtain ⟨x0, hx0⟩ : ∃ x0, x0 = w0.alloc (.cells #[.int .i64 0, .int .i64 0, .slice none 0 0, .slice none 0 0] 39) := ⟨_, rfl⟩
  have hbx : Below w0.heap.size w0 x0 := hx0 ▸ (Below.refl _ _).alloc (Nat.le_refl _) _
  have hzx : x0.heap.size = w.heap.size + 2 := by rw [hx0]; simp; omega
  have HR0 := Lib.hid (show x0.heap[w.heap.size + 1]? = some (.cells #[.int .i64 0, .int .i64 0, .slice none 0 0, .slice none 0 0] 39 (0, 0)) by rw [hx0, ← hz0]; exact heap_alloc_new w0 _)
  have HG0 := Lib.hid (show x0.heap[w.heap.size]? = some (.cells #[.int .i64 k.major, .int .i64 k.minor, .slice k.eA k.ex.length k.eC, .slice A l.length c] 39 (0, 0)) by rw [hx0, heap_alloc_old w0 _ (by omega), hw0]; exact heap_alloc_new w _)
  obtain ⟨_, k0, k1, k2, k3, _⟩ := rgcells HG0.out
  have HX := Lib.hid (hb0.trans (hbx.mono hb0.size))
  have HP := Lib.hid h
  have HK := Lib.hid hk
  obtain ⟨f1, f2, f3, f4⟩ := rg_facts hrg
  have c1 := Lib.hid (fun W (hb : Below w.heap.size w W) => Copy_any k A c l W (hk.below hb) (h.below hb) f1 f3 f4)
  have HD := Lib.hid hdo
  obtain ⟨F, hF⟩ : ∃ F, F = if E ≠ 0 then E else rgErr k L := ⟨_, rfl⟩
  rw [← hF]
  have HF := Lib.hid hF
  have HEG := Lib.hid eg
  have hw0' := hw0.symm
  have hx0' := hx0.symm
  clear hw0 hx0 hb0 hbx hk h g0 g1 g2 g3 hzx hF f1 f2 f3 f4 hdo hrg eg
  go_enter Tryz.func212, Tryz.ntmps212
  go_wp2_with fail
  refine (c1.out _ HX.out).mono ?_; rintro e w1 ⟨⟨k1', A1, l1, c1', rfl, hk1, hl1, hrg1⟩, hb1⟩
  have HB1 := Lib.hid (HX.out.trans (hb1.mono HX.out.size))
  obtain ⟨w2, hw2⟩ : ∃ w2, w2 = w1.alloc (.cells #[.int .i64 k1'.major, .int .i64 k1'.minor, .slice k1'.eA k1'.ex.length k1'.eC, .slice A1 l1.length c1'] 281) := ⟨_, rfl⟩
  have hb2 : Below w1.heap.size w1 w2 := hw2 ▸ (Below.refl _ _).alloc (Nat.le_refl _) _
  have h2 : w2.heap[w1.heap.size]? = some (.cells #[.int .i64 k1'.major, .int .i64 k1'.minor, .slice k1'.eA k1'.ex.length k1'.eC, .slice A1 l1.length c1'] 281 (0, 0)) := by rw [hw2]; exact heap_alloc_new w1 _
  have HB2 := Lib.hid (HB1.out.trans (hb2.mono HB1.out.size))
  have hrg2 := hrg1.below hb2
  have HP2 := Lib.hid (show PlannerOk w2 w.heap.size w1.heap.size k1' A1 l1 c1' from ⟨h2, ⟨ownM_le hrg2.ex HX.out.size, hrg2.mods.le HX.out.size⟩, hrg2.mods.ok rfl (by have := congrArg (List.map Plc.m) hl1; rw [List.map_map, List.map_map] at this; exact this) HP.out, HB1.out.size⟩)
  have HR2 := Lib.hid ((hb2.block (w.heap.size + 1) (Nat.lt_of_lt_of_le (Array.getElem?_eq_some_iff.1 HR0.out).1 hb1.size)).trans ((hb1.block (w.heap.size + 1) (Array.getElem?_eq_some_iff.1 HR0.out).1).trans HR0.out))
  have HK1 := Lib.hid hk1
  have cD := Lib.hid (HD.out w2 w1.heap.size k1' A1 l1 c1' HB2.out hl1 HP2.out)
  have hw2' := hw2.symm
  have heg := HEG.out
  clear hb1 hrg1 hw2 hb2 h2 hrg2 hk1 hl1 k0 k1 k2 k3 HD c1
  go_wp2_with fail
  refine (cD.out).mono ?_; rintro e w3 ⟨rfl, hE0, hk3, hb3⟩
  have HR3 := Lib.hid (hk3 _ _ _ _ HR2.out (by decide))
  have HB3 := Lib.hid (HB2.out.trans hb3)
  clear hk3 hb3 cD heg
  by_cases t : E = 0
  · obtain ⟨A2, c2, L2, hL2, hp3⟩ := hE0 t
    have hFE : F = rgErr k L := by rw [HF.out, if_neg (by omega)]
    have hko := hp3.own.okK HK1.out HK.out
    have cC := Lib.hid (RegCheck_any k1' A2 c2 L2 w3 hko hp3.ok)
    rw [rgErr_like HK1.out hL2, ← hFE] at cC
    have HP3 := Lib.hid hp3
    have HL2 := Lib.hid hL2
    obtain ⟨_, p0, p1, p2, p3, _⟩ := pl_cells hp3
    subst t
    clear hE0 hp3 hL2 hko hFE
    go_wp2_with fail
    refine (cC.out).mono ?_; rintro e w4 ⟨rfl, hb4⟩
    have HR4 := Lib.hid ((hb4.block _ (Array.getElem?_eq_some_iff.1 HR3.out).1).trans HR3.out)
    have HB4 := Lib.hid (HB3.out.trans (hb4.mono HB3.out.size))
    have HP4 := Lib.hid (HP3.out.below hb4)
    obtain ⟨_, q0, q1, q2, q3, _⟩ := pl_cells HP4.out
    obtain ⟨_, r0, r1, r2, r3, z0, z1, z2, z3⟩ := rgcells HR4.out
    clear hb4 cC p0 p1 p2 p3
    by_cases t : F = 0
    · have TF := Lib.hid t
      subst t
      go_wp2_with fail
      obtain ⟨hg, ho⟩ := set4 HR4.out (.int .i64 k1'.major) (.int .i64 k1'.minor) (.slice k1'.eA k1'.ex.length k1'.eC) (.slice A2 L2.length c2)
      refine bodyPost_ret (results_cell_tmp rfl _ _ (w.heap.size + 1) 39 _ (0, 0) _ rfl hg Tryz.underlying39 rfl Tryz.sizeReg) rfl ?_
      have hkr := ho.kp HR4.out (ts := [39]) (by simp)
      exact ⟨⟨k1', A2, L2, c2, rfl, ⟨HP4.out.own.kp hkr (by decide) (by decide) (by decide) (by decide), HK1.out, HL2.out⟩⟩, HB4.out.trans ((ho.below (Nat.le_of_lt (Array.getElem?_eq_some_iff.1 HR4.out).1)).mono (by omega))⟩
    · have t' : (F != 0) = true := by simp [t]
      have T := Lib.hid t
      clear t
      go_wp2_with fail
      obtain ⟨hg, ho⟩ := set4 HR4.out (.int .i64 0) (.int .i64 0) (.slice none 0 0) (.slice none 0 0)
      refine bodyPost_ret (results_cell_tmp rfl _ _ (w.heap.size + 1) 39 _ (0, 0) _ rfl hg Tryz.underlying39 rfl Tryz.sizeReg) rfl ?_
      exact ⟨⟨noKrn, none, [], 0, rfl, rgIs_none _ _ T.out _ _⟩, HB4.out.trans ((ho.below (Nat.le_of_lt (Array.getElem?_eq_some_iff.1 HR4.out).1)).mono (by omega))⟩
  · have t' : (E == 0) = false := by simp [t]
    have t2' : (E != 0) = true := by simp [t]
    have hFE : F = E := by rw [HF.out, if_pos t]
    subst hFE
    have T := Lib.hid t
    obtain ⟨_, r0, r1, r2, r3, z0, z1, z2, z3⟩ := rgcells HR3.out
    clear t hE0
    go_wp2_with fail
    obtain ⟨hg, ho⟩ := set4 HR3.out (.int .i64 0) (.int .i64 0) (.slice none 0 0) (.slice none 0 0)
    refine bodyPost_ret (results_cell_tmp rfl _ _ (w.heap.size + 1) 39 _ (0, 0) _ rfl hg Tryz.underlying39 rfl Tryz.sizeReg) rfl ?_
    exact ⟨⟨noKrn, none, [], 0, rfl, rgIs_none _ _ T.out _ _⟩, HB3.out.trans ((ho.below (Nat.le_of_lt (Array.getElem?_eq_some_iff.1 HR3.out).1)).mono (by omega))⟩

set_option maxHeartbeats 8000000 in
set_option maxRecDepth 100000 in
theorem PDo_any (k : Krn) (A : Option Addr) (c : Nat) (l : List Plc) (cm : Cm) (w : World) (hk : k.ok w) (h : PlsOk w A l) (hm : cm.m.ok w) (hrg : rgErr k l = 0) :
    Calls Tryz.prog 151 #[rgV k A l c, cm.v] w (RgRes w (cmErr k cm l) k (cmL cm l)) := by
  obtain ⟨w0, hw0⟩ : ∃ w0, w0 = w.alloc (.cells #[.int .i64 k.major, .int .i64 k.minor, .slice k.eA k.ex.length k.eC, .slice A l.length c] 39) := ⟨_, rfl⟩
  obtain ⟨x0, hx0⟩ : ∃ x0, x0 = w0.alloc (.cells (cmA cm) 102) := ⟨_, rfl⟩
  obtain ⟨y0, hy0⟩ : ∃ y0, y0 = x0.alloc (.cells #[.int .i64 0, .int .i64 0, .slice none 0 0, .slice none 0 0] 39) := ⟨_, rfl⟩
  have hb0 : Below w.heap.size w w0 := hw0 ▸ (Below.refl _ _).alloc (Nat.le_refl _) _
  have hbx : Below w0.heap.size w0 x0 := hx0 ▸ (Below.refl _ _).alloc (Nat.le_refl _) _
  have hby : Below x0.heap.size x0 y0 := hy0 ▸ (Below.refl _ _).alloc (Nat.le_refl _) _
  have hz0 : w0.heap.size = w.heap.size + 1 := by rw [hw0]; simp
  have hzx : x0.heap.size = w.heap.size + 2 := by rw [hx0]; simp; omega
  have hzy : y0.heap.size = w.heap.size + 3 := by rw [hy0]; simp; omega
  have hG0 : w0.heap[w.heap.size]? = some (.cells #[.int .i64 k.major, .int .i64 k.minor, .slice k.eA k.ex.length k.eC, .slice A l.length c] 39 (0, 0)) := by rw [hw0]; exact heap_alloc_new w _
  have hC0 : x0.heap[w.heap.size + 1]? = some (.cells (cmA cm) 102 (0, 0)) := by rw [hx0, ← hz0]; exact heap_alloc_new w0 _
  have HG := Lib.hid ((hby.block w.heap.size (by omega)).trans ((hbx.block w.heap.size (by omega)).trans hG0))
  have HC := Lib.hid ((hby.block (w.heap.size + 1) (by omega)).trans hC0)
  have HR := Lib.hid (show y0.heap[w.heap.size + 2]? = some (.cells #[.int .i64 0, .int .i64 0, .slice none 0 0, .slice none 0 0] 39 (0, 0)) by rw [hy0, ← hzx]; exact heap_alloc_new x0 _)
  have HB := Lib.hid ((hb0.trans (hbx.mono hb0.size)).trans (hby.mono (Nat.le_trans hb0.size hbx.size)))
  obtain ⟨_, k0, k1, k2, k3, _⟩ := rgcells HG.out
  have hlt : w.heap.size + 1 < y0.heap.size := by omega
  have cR := Lib.hid (raw_any k A c l 213 #[.pointer (some ⟨w.heap.size + 1, 0, none⟩)] (cmPre cm l) (cmL cm l) y0 (enters_of Tryz.func213 (by kernel_rfl) rfl) (hk.below HB.out) (h.below HB.out) hrg
    (fun W bp k1 A1 l1 c1 hb hl1 hp => by
      have hreg : regErr l1 = 0 := by rw [← regErr_bare, hl1, regErr_bare]; exact rg_reg hrg
      have := Do1_any y0.heap.size bp (w.heap.size + 1) k1 A1 c1 l1 cm W hp ((hb.block _ hlt).trans HC.out) (fun W2 hb2 => hm.below (HB.out.trans ((hb.trans hb2).mono HB.out.size))) hreg
      refine this.mono ?_
      rintro e w' ⟨h1, h2, h3, h4⟩
      have he : cmPre cm l1 = cmPre cm l := cmPre_like rfl hl1
      rw [he] at h1 h2
      refine ⟨h1, fun h0 => ?_, h3, h4⟩
      obtain ⟨A', c', L', hL', hp'⟩ := h2 h0
      exact ⟨A', c', L', hL'.trans (cmL_like rfl hl1), hp'⟩))
  have hce : (if cmPre cm l ≠ 0 then cmPre cm l else rgErr k (cmL cm l)) = cmErr k cm l := rfl
  rw [hce] at cR
  obtain ⟨F, hF⟩ : ∃ F, F = cmErr k cm l := ⟨_, rfl⟩
  obtain ⟨L, hL⟩ : ∃ L, L = cmL cm l := ⟨_, rfl⟩
  rw [← hF, ← hL] at cR ⊢
  have hw0' := hw0.symm
  have hx0' := hx0.symm
  have hy0' := hy0.symm
  clear hw0 hx0 hy0 hb0 hbx hby hG0 hC0 hk h hm hrg hce hF hL hlt hzy
  go_enter Tryz.func151, Tryz.ntmps151
  go_wp2_with fail
  refine (cR.out).mono ?_; rintro e w1 ⟨⟨k', A', l', c', rfl, hrg⟩, hb1⟩
  have HRG := Lib.hid hrg
  have HB1 := Lib.hid (HB.out.trans (hb1.mono HB.out.size))
  have HSZ := Lib.hid HB.out.size
  obtain ⟨HR1, r0, r1, r2, r3, z0, z1, z2, z3⟩ := rgcells ((hb1.block _ (Array.getElem?_eq_some_iff.1 HR.out).1).trans HR.out)
  clear hrg hb1 cR
  go_wp2_with fail
  obtain ⟨hg, ho⟩ := set4 HR1.out (.int .i64 k'.major) (.int .i64 k'.minor) (.slice k'.eA k'.ex.length k'.eC) (.slice A' l'.length c')
  refine bodyPost_ret (results_cell_tmp rfl _ _ (w.heap.size + 2) 39 _ (0, 0) _ rfl hg Tryz.underlying39 rfl Tryz.sizeReg) rfl ?_
  have hkr := ho.kp HR1.out (ts := [39]) (by simp)
  have hown := HRG.out.own.kp hkr (by decide) (by decide) (by decide) (by decide)
  exact ⟨⟨k', A', l', c', rfl, ⟨⟨ownM_le hown.ex HSZ.out, hown.mods.le HSZ.out⟩, HRG.out.kern, HRG.out.mods⟩⟩, HB1.out.trans ((ho.below (Nat.le_of_lt (Array.getElem?_eq_some_iff.1 HR1.out).1)).mono (by omega))⟩

end Go.Proofs.YtjiedaialianmaaGreat
end

section

namespace Go.Proofs.YtjiedaialianmaaGreat
open Go.RowKit Go.Lib

/-- what is wrong with a command of a registry that may be wrong -/
def planErr (k : Krn) (cm : Cm) (l : List Plc) : Int := if rgErr k l ≠ 0 then rgErr k l else cmErr k cm l
theorem results_plan {w w1 : World} {b : Nat} {F : Int} {k' k : Krn} {A' : Option Addr} {l' L : List Plc} {c' : Nat} (hb : Below w.heap.size w w1) (hbw : w.heap.size ≤ b) (HR1 : w1.heap[b]? = some (.cells #[.int .i64 0, .int .i64 0, .slice none 0 0, .slice none 0 0] 39 (0, 0)))
    (hrg : RgIs w1 w.heap.size k' A' l' c' (wK F k) (wL F L)) :
    ∃ w2, w2 = (((w1.setCell ⟨b, 0, none⟩ (.int .i64 k'.major)).setCell ⟨b, 1, none⟩ (.int .i64 k'.minor)).setCell ⟨b, 2, none⟩ (.slice k'.eA k'.ex.length k'.eC)).setCell ⟨b, 3, none⟩ (.slice A' l'.length c') ∧
      w2.heap[b]? = some (.cells #[.int .i64 k'.major, .int .i64 k'.minor, .slice k'.eA k'.ex.length k'.eC, .slice A' l'.length c'] 39 (0, 0)) ∧
      RgIs w2 w.heap.size k' A' l' c' (wK F k) (wL F L) ∧ Below w.heap.size w w2 := by
  obtain ⟨hg, ho⟩ := set4 HR1 (.int .i64 k'.major) (.int .i64 k'.minor) (.slice k'.eA k'.ex.length k'.eC) (.slice A' l'.length c')
  have hkr := ho.kp HR1 (ts := [39]) (by simp)
  exact ⟨_, rfl, hg, ⟨hrg.own.kp hkr (by decide) (by decide) (by decide) (by decide), hrg.kern, hrg.mods⟩, hb.trans ((ho.below (Nat.le_of_lt (Array.getElem?_eq_some_iff.1 HR1).1)).mono hbw)⟩
theorem RgIs.le {W : World} {b b' : Nat} {k K : Krn} {A : Option Addr} {l L : List Plc} {c : Nat} (h : RgIs W b k A l c K L) (hb : b' ≤ b) : RgIs W b' k A l c K L := ⟨⟨ownM_le h.own.ex hb, h.own.mods.le hb⟩, h.kern, h.mods⟩

set_option maxHeartbeats 8000000 in
set_option maxRecDepth 100000 in
theorem checked_any (k : Krn) (A : Option Addr) (c : Nat) (l : List Plc) (cm : Cm) (w : World) (hk : k.ok w) (h : PlsOk w A l) (hm : cm.m.ok w) :
    Calls Tryz.prog 100 #[rgV k A l c, cm.v] w (RgRes w (planErr k cm l) k (cmL cm l)) := by
  obtain ⟨w0, hw0⟩ : ∃ w0, w0 = w.alloc (.cells #[.int .i64 k.major, .int .i64 k.minor, .slice k.eA k.ex.length k.eC, .slice A l.length c] 39) := ⟨_, rfl⟩
  obtain ⟨x0, hx0⟩ : ∃ x0, x0 = w0.alloc (.cells (cmA cm) 102) := ⟨_, rfl⟩
  obtain ⟨y0, hy0⟩ : ∃ y0, y0 = x0.alloc (.cells #[.int .i64 0, .int .i64 0, .slice none 0 0, .slice none 0 0] 39) := ⟨_, rfl⟩
  have hb0 : Below w.heap.size w w0 := hw0 ▸ (Below.refl _ _).alloc (Nat.le_refl _) _
  have hbx : Below w0.heap.size w0 x0 := hx0 ▸ (Below.refl _ _).alloc (Nat.le_refl _) _
  have hby : Below x0.heap.size x0 y0 := hy0 ▸ (Below.refl _ _).alloc (Nat.le_refl _) _
  have hz0 : w0.heap.size = w.heap.size + 1 := by rw [hw0]; simp
  have hzx : x0.heap.size = w.heap.size + 2 := by rw [hx0]; simp; omega
  have hzy : y0.heap.size = w.heap.size + 3 := by rw [hy0]; simp; omega
  have hG0 : w0.heap[w.heap.size]? = some (.cells #[.int .i64 k.major, .int .i64 k.minor, .slice k.eA k.ex.length k.eC, .slice A l.length c] 39 (0, 0)) := by rw [hw0]; exact heap_alloc_new w _
  have hC0 : x0.heap[w.heap.size + 1]? = some (.cells (cmA cm) 102 (0, 0)) := by rw [hx0, ← hz0]; exact heap_alloc_new w0 _
  have HG := Lib.hid ((hby.block w.heap.size (by omega)).trans ((hbx.block w.heap.size (by omega)).trans hG0))
  have HC := Lib.hid ((hby.block (w.heap.size + 1) (by omega)).trans hC0)
  have HR := Lib.hid (show y0.heap[w.heap.size + 2]? = some (.cells #[.int .i64 0, .int .i64 0, .slice none 0 0, .slice none 0 0] 39 (0, 0)) by rw [hy0, ← hzx]; exact heap_alloc_new x0 _)
  have HB := Lib.hid ((hb0.trans (hbx.mono hb0.size)).trans (hby.mono (Nat.le_trans hb0.size hbx.size)))
  obtain ⟨_, k0, k1, k2, k3, _⟩ := rgcells HG.out
  have cC := Lib.hid (RegCheck_any k A c l y0 (hk.below HB.out) (h.below HB.out))
  have cD := Lib.hid (fun W (hb : Below w.heap.size w W) (hrg : rgErr k l = 0) => PDo_any k A c l cm W (hk.below hb) (h.below hb) (hm.below hb) hrg)
  obtain ⟨F, hF⟩ : ∃ F, F = planErr k cm l := ⟨_, rfl⟩
  obtain ⟨L, hL⟩ : ∃ L, L = cmL cm l := ⟨_, rfl⟩
  rw [← hL] at cD
  rw [← hF, ← hL]
  unfold planErr at hF
  obtain ⟨R, hR⟩ : ∃ R, R = rgErr k l := ⟨_, rfl⟩
  rw [← hR] at cC cD hF
  have hw0' := hw0.symm
  have hx0' := hx0.symm
  have hy0' := hy0.symm
  clear hw0 hx0 hy0 hb0 hbx hby hG0 hC0 hk h hm hL hR hzy
  by_cases t : R = 0
  · subst t
    rw [if_neg (by omega)] at hF
    rw [← hF] at cD
    clear hF
    go_enter Tryz.func100, Tryz.ntmps100
    go_wp2_with fail
    refine (cC.out).mono ?_; rintro e w1 ⟨rfl, hb1⟩
    have HB1 := Lib.hid (HB.out.trans (hb1.mono HB.out.size))
    have HR1 := Lib.hid ((hb1.block _ (Array.getElem?_eq_some_iff.1 HR.out).1).trans HR.out)
    have HC1 := Lib.hid ((hb1.block _ (Array.getElem?_eq_some_iff.1 HC.out).1).trans HC.out)
    obtain ⟨_, m0, m1, m2, m3, _⟩ := rgcells ((hb1.block _ (Array.getElem?_eq_some_iff.1 HG.out).1).trans HG.out)
    obtain ⟨n0, n1, n2, n3, n4, n5, n6, n7, n8⟩ := box_cm HC1.out
    have cD' := Lib.hid (cD.out w1 HB1.out (by first | trivial | rfl))
    clear hb1 cC cD k0 k1 k2 k3
    go_wp2_with fail
    refine (cD'.out).mono ?_; rintro e w2 ⟨⟨k', A', l', c', rfl, hrg⟩, hb2⟩
    have HRG := Lib.hid (RgIs.le hrg HB1.out.size)
    have HB2 := Lib.hid (HB1.out.trans (hb2.mono HB1.out.size))
    obtain ⟨HR2, r0, r1, r2, r3, z0, z1, z2, z3⟩ := rgcells ((hb2.block _ (Array.getElem?_eq_some_iff.1 HR1.out).1).trans HR1.out)
    clear hrg hb2 cD' m0 m1 m2 m3 n0 n1 n2 n3 n4 n5 n6 n7 n8
    go_wp2_with fail
    obtain ⟨w3, e3, h3, h4, h5⟩ := results_plan HB2.out (by omega) HR2.out HRG.out
    rw [← e3]
    exact bodyPost_ret (results_cell_tmp rfl _ _ (w.heap.size + 2) 39 _ (0, 0) _ rfl h3 Tryz.underlying39 rfl Tryz.sizeReg) rfl ⟨⟨k', A', l', c', rfl, h4⟩, h5⟩
  · rw [if_pos t] at hF
    subst hF
    have t' : (F != 0) = true := by simp [t]
    have T := Lib.hid t
    clear t cD
    go_enter Tryz.func100, Tryz.ntmps100
    go_wp2_with fail
    refine (cC.out).mono ?_; rintro e w1 ⟨rfl, hb1⟩
    have HB1 := Lib.hid (HB.out.trans (hb1.mono HB.out.size))
    obtain ⟨HR1, r0, r1, r2, r3, z0, z1, z2, z3⟩ := rgcells ((hb1.block _ (Array.getElem?_eq_some_iff.1 HR.out).1).trans HR.out)
    clear hb1 cC k0 k1 k2 k3
    go_wp2_with fail
    obtain ⟨hg, ho⟩ := set4 HR1.out (.int .i64 0) (.int .i64 0) (.slice none 0 0) (.slice none 0 0)
    refine bodyPost_ret (results_cell_tmp rfl _ _ (w.heap.size + 2) 39 _ (0, 0) _ rfl hg Tryz.underlying39 rfl Tryz.sizeReg) rfl ?_
    exact ⟨⟨noKrn, none, [], 0, rfl, rgIs_none _ _ T.out _ _⟩, HB1.out.trans ((ho.below (Nat.le_of_lt (Array.getElem?_eq_some_iff.1 HR1.out).1)).mono (by omega))⟩


set_option maxHeartbeats 8000000 in
set_option maxRecDepth 100000 in
theorem PInstall_any (k : Krn) (A : Option Addr) (c : Nat) (l : List Plc) (m : Mod) (w : World) (hk : k.ok w) (h : PlsOk w A l) (hm : m.ok w) :
    Calls Tryz.prog 35 #[rgV k A l c, m.v] w (RgRes w (planErr k ⟨1, m, ⟨#[]⟩⟩ l) k (cmL ⟨1, m, ⟨#[]⟩⟩ l)) := by
  obtain ⟨w0, hw0⟩ : ∃ w0, w0 = w.alloc (.cells #[.int .i64 k.major, .int .i64 k.minor, .slice k.eA k.ex.length k.eC, .slice A l.length c] 39) := ⟨_, rfl⟩
  obtain ⟨x0, hx0⟩ : ∃ x0, x0 = w0.alloc (.cells #[.string m.name, .int .i64 m.major, .int .i64 m.minor, .string m.text, .slice m.eA m.ex.length m.eC, .slice m.iA m.im.length m.iC, .slice m.pA m.pa.length m.pC] 70) := ⟨_, rfl⟩
  obtain ⟨y0, hy0⟩ : ∃ y0, y0 = x0.alloc (.cells #[.int .i64 0, .int .i64 0, .slice none 0 0, .slice none 0 0] 39) := ⟨_, rfl⟩
  have hb0 : Below w.heap.size w w0 := hw0 ▸ (Below.refl _ _).alloc (Nat.le_refl _) _
  have hbx : Below w0.heap.size w0 x0 := hx0 ▸ (Below.refl _ _).alloc (Nat.le_refl _) _
  have hby : Below x0.heap.size x0 y0 := hy0 ▸ (Below.refl _ _).alloc (Nat.le_refl _) _
  have hz0 : w0.heap.size = w.heap.size + 1 := by rw [hw0]; simp
  have hzx : x0.heap.size = w.heap.size + 2 := by rw [hx0]; simp; omega
  have hG0 : w0.heap[w.heap.size]? = some (.cells #[.int .i64 k.major, .int .i64 k.minor, .slice k.eA k.ex.length k.eC, .slice A l.length c] 39 (0, 0)) := by rw [hw0]; exact heap_alloc_new w _
  have hM0 : x0.heap[w.heap.size + 1]? = some (.cells #[.string m.name, .int .i64 m.major, .int .i64 m.minor, .string m.text, .slice m.eA m.ex.length m.eC, .slice m.iA m.im.length m.iC, .slice m.pA m.pa.length m.pC] 70 (0, 0)) := by rw [hx0, ← hz0]; exact heap_alloc_new w0 _
  have HG := Lib.hid ((hby.block w.heap.size (by omega)).trans ((hbx.block w.heap.size (by omega)).trans hG0))
  have HM := Lib.hid ((hby.block (w.heap.size + 1) (by omega)).trans hM0)
  have HR := Lib.hid (show y0.heap[w.heap.size + 2]? = some (.cells #[.int .i64 0, .int .i64 0, .slice none 0 0, .slice none 0 0] 39 (0, 0)) by rw [hy0, ← hzx]; exact heap_alloc_new x0 _)
  have HB := Lib.hid ((hb0.trans (hbx.mono hb0.size)).trans (hby.mono (Nat.le_trans hb0.size hbx.size)))
  obtain ⟨_, k0, k1, k2, k3, _⟩ := rgcells HG.out
  obtain ⟨n0, n1, n2, n3, n4, n5, n6⟩ := box_mod HM.out
  have cC := Lib.hid (checked_any k A c l ⟨1, m, ⟨#[]⟩⟩ y0 (hk.below HB.out) (h.below HB.out) (hm.below HB.out))
  obtain ⟨F, hF⟩ : ∃ F, F = planErr k ⟨1, m, ⟨#[]⟩⟩ l := ⟨_, rfl⟩
  obtain ⟨L, hL⟩ : ∃ L, L = cmL ⟨1, m, ⟨#[]⟩⟩ l := ⟨_, rfl⟩
  rw [← hF, ← hL] at cC ⊢
  have hw0' := hw0.symm
  have hx0' := hx0.symm
  have hy0' := hy0.symm
  clear hw0 hx0 hy0 hb0 hbx hby hG0 hM0 hk h hm hL hF
  go_enter Tryz.func35, Tryz.ntmps35
  go_wp2_with fail
  refine (cC.out).mono ?_; rintro e w2 ⟨⟨k', A', l', c', rfl, hrg⟩, hb2⟩
  have HRG := Lib.hid (RgIs.le hrg HB.out.size)
  have HB2 := Lib.hid (HB.out.trans (hb2.mono HB.out.size))
  obtain ⟨HR2, r0, r1, r2, r3, z0, z1, z2, z3⟩ := rgcells ((hb2.block _ (Array.getElem?_eq_some_iff.1 HR.out).1).trans HR.out)
  clear hrg hb2 cC k0 k1 k2 k3 n0 n1 n2 n3 n4 n5 n6
  go_wp2_with fail
  obtain ⟨w3, e3, h3, h4, h5⟩ := results_plan HB2.out (by omega) HR2.out HRG.out
  rw [← e3]
  exact bodyPost_ret (results_cell_tmp rfl _ _ (w.heap.size + 2) 39 _ (0, 0) _ rfl h3 Tryz.underlying39 rfl Tryz.sizeReg) rfl ⟨⟨k', A', l', c', rfl, h4⟩, h5⟩

set_option maxHeartbeats 8000000 in
set_option maxRecDepth 100000 in
theorem PRemove_any (k : Krn) (A : Option Addr) (c : Nat) (l : List Plc) (nm : ByteArray) (w : World) (hk : k.ok w) (h : PlsOk w A l) :
    Calls Tryz.prog 36 #[rgV k A l c, .string nm] w (RgRes w (planErr k ⟨2, noMod, nm⟩ l) k (cmL ⟨2, noMod, nm⟩ l)) := by
  obtain ⟨w0, hw0⟩ : ∃ w0, w0 = w.alloc (.cells #[.int .i64 k.major, .int .i64 k.minor, .slice k.eA k.ex.length k.eC, .slice A l.length c] 39) := ⟨_, rfl⟩
  obtain ⟨y0, hy0⟩ : ∃ y0, y0 = w0.alloc (.cells #[.int .i64 0, .int .i64 0, .slice none 0 0, .slice none 0 0] 39) := ⟨_, rfl⟩
  have hb0 : Below w.heap.size w w0 := hw0 ▸ (Below.refl _ _).alloc (Nat.le_refl _) _
  have hby : Below w0.heap.size w0 y0 := hy0 ▸ (Below.refl _ _).alloc (Nat.le_refl _) _
  have hz0 : w0.heap.size = w.heap.size + 1 := by rw [hw0]; simp
  have hG0 : w0.heap[w.heap.size]? = some (.cells #[.int .i64 k.major, .int .i64 k.minor, .slice k.eA k.ex.length k.eC, .slice A l.length c] 39 (0, 0)) := by rw [hw0]; exact heap_alloc_new w _
  have HG := Lib.hid ((hby.block w.heap.size (by omega)).trans hG0)
  have HR := Lib.hid (show y0.heap[w.heap.size + 1]? = some (.cells #[.int .i64 0, .int .i64 0, .slice none 0 0, .slice none 0 0] 39 (0, 0)) by rw [hy0, ← hz0]; exact heap_alloc_new w0 _)
  have HB := Lib.hid (hb0.trans (hby.mono hb0.size))
  obtain ⟨_, k0, k1, k2, k3, _⟩ := rgcells HG.out
  have cC := Lib.hid (show Calls Tryz.prog 100 #[rgV k A l c, .agg #[.int .i64 2, .string ⟨#[]⟩, .int .i64 0, .int .i64 0, .string ⟨#[]⟩, .slice none 0 0, .slice none 0 0, .slice none 0 0, .string nm]] y0 (RgRes y0 (planErr k ⟨2, noMod, nm⟩ l) k (cmL ⟨2, noMod, nm⟩ l)) from checked_any k A c l ⟨2, noMod, nm⟩ y0 (hk.below HB.out) (h.below HB.out) (noMod_ok _))
  obtain ⟨F, hF⟩ : ∃ F, F = planErr k ⟨2, noMod, nm⟩ l := ⟨_, rfl⟩
  obtain ⟨L, hL⟩ : ∃ L, L = cmL ⟨2, noMod, nm⟩ l := ⟨_, rfl⟩
  rw [← hF, ← hL] at cC ⊢
  have hw0' := hw0.symm
  have hy0' := hy0.symm
  clear hw0 hy0 hb0 hby hG0 hk h hL hF
  go_enter Tryz.func36, Tryz.ntmps36
  go_wp2_with fail
  refine (cC.out).mono ?_; rintro e w2 ⟨⟨k', A', l', c', rfl, hrg⟩, hb2⟩
  have HRG := Lib.hid (RgIs.le hrg HB.out.size)
  have HB2 := Lib.hid (HB.out.trans (hb2.mono HB.out.size))
  obtain ⟨HR2, r0, r1, r2, r3, z0, z1, z2, z3⟩ := rgcells ((hb2.block _ (Array.getElem?_eq_some_iff.1 HR.out).1).trans HR.out)
  clear hrg hb2 cC k0 k1 k2 k3
  go_wp2_with fail
  obtain ⟨w3, e3, h3, h4, h5⟩ := results_plan HB2.out (by omega) HR2.out HRG.out
  rw [← e3]
  exact bodyPost_ret (results_cell_tmp rfl _ _ (w.heap.size + 1) 39 _ (0, 0) _ rfl h3 Tryz.underlying39 rfl Tryz.sizeReg) rfl ⟨⟨k', A', l', c', rfl, h4⟩, h5⟩

set_option maxHeartbeats 8000000 in
set_option maxRecDepth 100000 in
theorem PUpgrade_any (k : Krn) (A : Option Addr) (c : Nat) (l : List Plc) (m : Mod) (w : World) (hk : k.ok w) (h : PlsOk w A l) (hm : m.ok w) :
    Calls Tryz.prog 37 #[rgV k A l c, m.v] w (RgRes w (planErr k ⟨3, m, ⟨#[]⟩⟩ l) k (cmL ⟨3, m, ⟨#[]⟩⟩ l)) := by
  obtain ⟨w0, hw0⟩ : ∃ w0, w0 = w.alloc (.cells #[.int .i64 k.major, .int .i64 k.minor, .slice k.eA k.ex.length k.eC, .slice A l.length c] 39) := ⟨_, rfl⟩
  obtain ⟨x0, hx0⟩ : ∃ x0, x0 = w0.alloc (.cells #[.string m.name, .int .i64 m.major, .int .i64 m.minor, .string m.text, .slice m.eA m.ex.length m.eC, .slice m.iA m.im.length m.iC, .slice m.pA m.pa.length m.pC] 70) := ⟨_, rfl⟩
  obtain ⟨y0, hy0⟩ : ∃ y0, y0 = x0.alloc (.cells #[.int .i64 0, .int .i64 0, .slice none 0 0, .slice none 0 0] 39) := ⟨_, rfl⟩
  have hb0 : Below w.heap.size w w0 := hw0 ▸ (Below.refl _ _).alloc (Nat.le_refl _) _
  have hbx : Below w0.heap.size w0 x0 := hx0 ▸ (Below.refl _ _).alloc (Nat.le_refl _) _
  have hby : Below x0.heap.size x0 y0 := hy0 ▸ (Below.refl _ _).alloc (Nat.le_refl _) _
  have hz0 : w0.heap.size = w.heap.size + 1 := by rw [hw0]; simp
  have hzx : x0.heap.size = w.heap.size + 2 := by rw [hx0]; simp; omega
  have hG0 : w0.heap[w.heap.size]? = some (.cells #[.int .i64 k.major, .int .i64 k.minor, .slice k.eA k.ex.length k.eC, .slice A l.length c] 39 (0, 0)) := by rw [hw0]; exact heap_alloc_new w _
  have hM0 : x0.heap[w.heap.size + 1]? = some (.cells #[.string m.name, .int .i64 m.major, .int .i64 m.minor, .string m.text, .slice m.eA m.ex.length m.eC, .slice m.iA m.im.length m.iC, .slice m.pA m.pa.length m.pC] 70 (0, 0)) := by rw [hx0, ← hz0]; exact heap_alloc_new w0 _
  have HG := Lib.hid ((hby.block w.heap.size (by omega)).trans ((hbx.block w.heap.size (by omega)).trans hG0))
  have HM := Lib.hid ((hby.block (w.heap.size + 1) (by omega)).trans hM0)
  have HR := Lib.hid (show y0.heap[w.heap.size + 2]? = some (.cells #[.int .i64 0, .int .i64 0, .slice none 0 0, .slice none 0 0] 39 (0, 0)) by rw [hy0, ← hzx]; exact heap_alloc_new x0 _)
  have HB := Lib.hid ((hb0.trans (hbx.mono hb0.size)).trans (hby.mono (Nat.le_trans hb0.size hbx.size)))
  obtain ⟨_, k0, k1, k2, k3, _⟩ := rgcells HG.out
  obtain ⟨n0, n1, n2, n3, n4, n5, n6⟩ := box_mod HM.out
  have cC := Lib.hid (checked_any k A c l ⟨3, m, ⟨#[]⟩⟩ y0 (hk.below HB.out) (h.below HB.out) (hm.below HB.out))
  obtain ⟨F, hF⟩ : ∃ F, F = planErr k ⟨3, m, ⟨#[]⟩⟩ l := ⟨_, rfl⟩
  obtain ⟨L, hL⟩ : ∃ L, L = cmL ⟨3, m, ⟨#[]⟩⟩ l := ⟨_, rfl⟩
  rw [← hF, ← hL] at cC ⊢
  have hw0' := hw0.symm
  have hx0' := hx0.symm
  have hy0' := hy0.symm
  clear hw0 hx0 hy0 hb0 hbx hby hG0 hM0 hk h hm hL hF
  go_enter Tryz.func37, Tryz.ntmps37
  go_wp2_with fail
  refine (cC.out).mono ?_; rintro e w2 ⟨⟨k', A', l', c', rfl, hrg⟩, hb2⟩
  have HRG := Lib.hid (RgIs.le hrg HB.out.size)
  have HB2 := Lib.hid (HB.out.trans (hb2.mono HB.out.size))
  obtain ⟨HR2, r0, r1, r2, r3, z0, z1, z2, z3⟩ := rgcells ((hb2.block _ (Array.getElem?_eq_some_iff.1 HR.out).1).trans HR.out)
  clear hrg hb2 cC k0 k1 k2 k3 n0 n1 n2 n3 n4 n5 n6
  go_wp2_with fail
  obtain ⟨w3, e3, h3, h4, h5⟩ := results_plan HB2.out (by omega) HR2.out HRG.out
  rw [← e3]
  exact bodyPost_ret (results_cell_tmp rfl _ _ (w.heap.size + 2) 39 _ (0, 0) _ rfl h3 Tryz.underlying39 rfl Tryz.sizeReg) rfl ⟨⟨k', A', l', c', rfl, h4⟩, h5⟩

end Go.Proofs.YtjiedaialianmaaGreat
end
