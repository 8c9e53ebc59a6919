import Derived.Test.YtjnfemcfohflnaaGreatG13
import Derived.Test.YtjnfemcfohflnaaGreatG08
/- CompactTells: Step and Pack answer just what the document says, errors too, whatever registry they are handed. No condition. -/
namespace Go.Proofs.YtjnfemcfohflnaaGreat
open Go.ChangeShapes Go.WideShapes Go.ChangeAt Go.RowKit Go.WideMaps Go.WideElems
open Go.ChangeMaps (setBlock shut_map_nil open_string shut_string keptBut_setBlock frozen?_setBlock heap_setBlock_same)

abbrev zRg : Array Value := #[.int .i64 0, .int .i64 0, .slice none 0 0, .slice none 0 0]
/-- what a later world still tells of a registry that came out of a call -/
def RgThere (W : World) (k : Krn) (A : Option Addr) (l : List Plc) : Prop := k.ok W ∧ PlsOk W A l
theorem RgThere.below {W W' : World} {k : Krn} {A : Option Addr} {l : List Plc} (h : RgThere W k A l) (hb : Below W.heap.size W W') : RgThere W' k A l := ⟨h.1.below hb, h.2.below hb⟩
theorem RgThere.other {W W' : World} {k : Krn} {A : Option Addr} {l : List Plc} {b : Nat} {t : TypeId} (h : RgThere W k A l) (hr : RgBlock W b t) (ho : Only b W W') : RgThere W' k A l := ⟨Krn.ok.other hr ho h.1, PlsOk.other hr ho h.2⟩
theorem blk' {W W' : World} {b : Nat} {o : Obj} (hb : Below W.heap.size W W') (h : W.heap[b]? = some o) : W'.heap[b]? = some o := (hb.block b (Array.getElem?_eq_some_iff.1 h).1).trans h

set_option maxRecDepth 100000 in
set_option maxHeartbeats 8000000 in
theorem CompactTells_any (k : Krn) (A : Option Addr) (l : List Plc) (c : Nat) (w : World) (hk : k.ok w) (h : PlsOk w A l) :
    Calls Tryz.prog 5 #[.agg #[.int .i64 k.major, .int .i64 k.minor, .slice k.eA k.ex.length k.eC, .slice A l.length c]] w fun e w' => e = .returned (.bool true) ∧ Below w.heap.size w w' := by
  obtain ⟨w0, hw0⟩ : ∃ w0, w0 = w.alloc (.cells #[.int .i64 k.major, .int .i64 k.minor, .slice k.eA k.ex.length k.eC, .slice A l.length c] 27) := ⟨_, rfl⟩
  obtain ⟨g0, g1, g2, g3, hz, hb0⟩ := box4 hw0
  have HR0 := Lib.hid (show w0.heap[w.heap.size]? = some (.cells #[.int .i64 k.major, .int .i64 k.minor, .slice k.eA k.ex.length k.eC, .slice A l.length c] 27 (0, 0)) by rw [hw0]; exact heap_alloc_new w _)
  have H0 := Lib.hid hb0
  have hw0' := hw0.symm
  have HP := Lib.hid h
  have HK := Lib.hid hk
  have c1 := Lib.hid (fun W (hb : Below w.heap.size w W) => CStep_any k A c l W (hk.below hb) (h.below hb))
  have c2 := Lib.hid (fun W (hb : Below w.heap.size w W) => CPack_any k A c l W (hk.below hb) (h.below hb))
  have c3 := Lib.hid (fun W (hb : Below w.heap.size w W) => CheckRegistry_any k A c l W (hk.below hb) (h.below hb))
  obtain ⟨E, hE⟩ : ∃ E, E = rgErr k l := ⟨_, rfl⟩
  have HE := Lib.hid hE
  rw [← hE] at c1 c2 c3
  have hmS := Lib.hid (stepD_mods l 0)
  have hmP := Lib.hid (pack_mods (l := l) (a := 0))
  -- what the two answers are good for, whatever the errno
  have HU := Lib.hid (show ∀ (W : World) (base : Nat) (k' : Krn) (A' : Option Addr) (l' : List Plc) (c' : Nat) (L : List Plc), L.map (·.m) = l.map (·.m) → RgIs W base k' A' l' c' (wK E k) (wL E L) → RgThere W k' A' l' ∧ (E = 0 → k'.bare = k.bare ∧ bares l' = bares L) ∧ (E ≠ 0 → k'.bare = noKrn ∧ l' = []) from
    fun W base k' A' l' c' L hL hrg => by
      by_cases t : E = 0
      · have h1 := hrg
        rw [t, wK0, wL0] at h1
        exact ⟨RgIs.okAll h1 hk h hL, fun _ => ⟨h1.kern, h1.mods⟩, fun e => absurd t e⟩
      · have h1 := hrg
        rw [wKE t, wLE t] at h1
        have hn : l' = [] := by have := len_like h1.mods; exact List.eq_nil_of_length_eq_zero this
        exact ⟨RgIs.okAll h1 (noKrn_ok W) (⟨Row.nil, Nat.zero_le _, by simp⟩ : PlsOk W none []) rfl, fun e => absurd e t, fun _ => ⟨h1.kern, hn⟩⟩)
  clear hw0 hb0 hz h hk hE
  go_enter Tryz.func5, Tryz.ntmps5
  go_wp2_with fail
  refine (c1.out _ H0.out).mono ?_; rintro e w1 ⟨⟨k1, A1, l1, n1, rfl, hrg⟩, hb1⟩
  have h1 := HU.out _ _ _ _ _ _ _ hmS.out hrg
  obtain ⟨w2, hw2⟩ : ∃ w2, w2 = w1.alloc (.cells #[.int .i64 k1.major, .int .i64 k1.minor, .slice k1.eA k1.ex.length k1.eC, .slice A1 l1.length n1] 27) := ⟨_, rfl⟩
  have hb2 : Below w1.heap.size w1 w2 := hw2 ▸ (Below.refl _ _).alloc (Nat.le_refl _) _
  have HA2 := Lib.hid (show w2.heap[w1.heap.size]? = some (.cells #[.int .i64 k1.major, .int .i64 k1.minor, .slice k1.eA k1.ex.length k1.eC, .slice A1 l1.length n1] 27 (0, 0)) by rw [hw2]; exact heap_alloc_new w1 _)
  have HB2 := Lib.hid ((H0.out.trans (hb1.mono H0.out.size)).trans (hb2.mono (Nat.le_trans H0.out.size hb1.size)))
  have HR2 := Lib.hid (blk' hb2 (blk' hb1 HR0.out))
  have HT2 := Lib.hid (h1.1.below hb2)
  have HS1 := Lib.hid h1.2
  obtain ⟨_, k0, kk1, k2, k3, _⟩ := rgcells HR2.out
  have hw2' := hw2.symm
  clear hrg hb1 hw2 hb2 h1 g0 g1 g2 g3
  go_wp2_with fail
  refine (c2.out _ HB2.out).mono ?_; rintro e w3 ⟨⟨n, k3', A3, l3, n3, rfl, hn, hrg⟩, hb3⟩
  have h3 := HU.out _ _ _ _ _ _ _ hmP.out hrg
  have HN := Lib.hid hn
  obtain ⟨w4, hw4⟩ : ∃ w4, w4 = w3.alloc (.cells #[.int .i64 k3'.major, .int .i64 k3'.minor, .slice k3'.eA k3'.ex.length k3'.eC, .slice A3 l3.length n3] 27) := ⟨_, rfl⟩
  have hb4 : Below w3.heap.size w3 w4 := hw4 ▸ (Below.refl _ _).alloc (Nat.le_refl _) _
  have HC4 := Lib.hid (show w4.heap[w3.heap.size]? = some (.cells #[.int .i64 k3'.major, .int .i64 k3'.minor, .slice k3'.eA k3'.ex.length k3'.eC, .slice A3 l3.length n3] 27 (0, 0)) by rw [hw4]; exact heap_alloc_new w3 _)
  have HB4 := Lib.hid ((HB2.out.trans (hb3.mono HB2.out.size)).trans (hb4.mono (Nat.le_trans HB2.out.size hb3.size)))
  have HR4 := Lib.hid (blk' hb4 (blk' hb3 HR2.out))
  have HA4 := Lib.hid (blk' hb4 (blk' hb3 HA2.out))
  have HT4 := Lib.hid ((HT2.out.below hb3).below hb4)
  have HU4 := Lib.hid (h3.1.below hb4)
  have HS3 := Lib.hid h3.2
  obtain ⟨_, j0, jj1, j2, j3, _⟩ := rgcells HR4.out
  have hw4' := hw4.symm
  clear hrg hb3 hw4 hb4 h3 hn k0 kk1 k2 k3
  go_wp2_with fail
  refine (c3.out _ HB4.out).mono ?_; rintro e w5 ⟨rfl, hb5⟩
  obtain ⟨w6, hw6⟩ : ∃ w6, w6 = w5.alloc (.cells #[.int .i64 0, .int .i64 0, .slice none 0 0, .slice none 0 0] 27) := ⟨_, rfl⟩
  obtain ⟨w7, hw7⟩ : ∃ w7, w7 = w6.alloc (.cells #[.int .i64 0, .int .i64 0, .slice none 0 0, .slice none 0 0] 27) := ⟨_, rfl⟩
  have hb6 : Below w5.heap.size w5 w6 := hw6 ▸ (Below.refl _ _).alloc (Nat.le_refl _) _
  have hb7 : Below w6.heap.size w6 w7 := hw7 ▸ (Below.refl _ _).alloc (Nat.le_refl _) _
  have hz6 : w6.heap.size = w5.heap.size + 1 := by rw [hw6]; simp
  have hb57 := hb5.trans ((hb6.trans (hb7.mono hb6.size)).mono hb5.size)
  have HX7 := Lib.hid (show w7.heap[w5.heap.size]? = some (.cells #[.int .i64 0, .int .i64 0, .slice none 0 0, .slice none 0 0] 27 (0, 0)) by rw [hw7, heap_alloc_old w6 _ (by omega), hw6]; exact heap_alloc_new w5 _)
  have HY7 := Lib.hid (show w7.heap[w5.heap.size + 1]? = some (.cells #[.int .i64 0, .int .i64 0, .slice none 0 0, .slice none 0 0] 27 (0, 0)) by rw [hw7, ← hz6]; exact heap_alloc_new w6 _)
  have HS45 := Lib.hid hb5.size
  have HB7 := Lib.hid (HB4.out.trans (hb57.mono HB4.out.size))
  have HR7 := Lib.hid (blk' hb57 HR4.out)
  have HA7 := Lib.hid (blk' hb57 HA4.out)
  have HC7 := Lib.hid (blk' hb57 HC4.out)
  have HT7 := Lib.hid (HT4.out.below hb57)
  have HU7 := Lib.hid (HU4.out.below hb57)
  have hw6' := hw6.symm
  have hw7' := hw7.symm
  clear hb5 hw6 hw7 hb6 hb7 hb57 j0 jj1 j2 j3
  by_cases t : E = 0
  · subst t
    have hRG := HE.out.symm
    obtain ⟨f1, f2, f3, f4⟩ := rg_facts hRG
    have c4 := Lib.hid (fun W (hb : Below w.heap.size w W) => StepOf_any k A c l W (HP.out.below hb) f1 f2 f3)
    have c5 := Lib.hid (fun W (hb : Below w.heap.size w W) => PackOf_any k A c l W (HP.out.below hb) f1 f2 f3)
    have hn2 : n = (packL 0 l).2 := by simpa using HN.out
    subst hn2
    obtain ⟨_, m0, m1, m2, m3, _⟩ := rgcells HR7.out
    obtain ⟨ok, hok⟩ : ∃ ok, ok = (stepL 0 l).isSome := ⟨_, rfl⟩
    simp only [← hok] at c4
    clear hRG f1 f2 f3 f4
    have hne1 : ¬ w.heap.size = w5.heap.size := by have := HB4.out.size; have := (Array.getElem?_eq_some_iff.1 HR4.out).1; have := HS45.out; omega
    have hne2 : ¬ w5.heap.size = w.heap.size := fun e => hne1 e.symm
    have HMS := Lib.hid (show ((stepL 0 l).getD l).length = l.length from len_mods hmS.out)
    go_wp2_with fail
    refine (c4.out _ HB7.out).mono ?_; rintro e w8 ⟨⟨A8, c8, rfl, ho8⟩, hb8⟩
    obtain ⟨L8, hL8⟩ : ∃ L8, L8 = (stepL 0 l).getD l := ⟨_, rfl⟩
    rw [← hL8] at ho8 ⊢
    have HL8 := Lib.hid hL8
    have HX8 := Lib.hid (blk' hb8 HX7.out)
    have HY8 := Lib.hid (blk' hb8 HY7.out)
    have HR8 := Lib.hid (blk' hb8 HR7.out)
    have HA8 := Lib.hid (blk' hb8 HA7.out)
    have HC8 := Lib.hid (blk' hb8 HC7.out)
    have HT8 := Lib.hid (HT7.out.below hb8)
    have HU8 := Lib.hid (HU7.out.below hb8)
    have HB8 := Lib.hid (HB7.out.trans (hb8.mono HB7.out.size))
    have HO8 := Lib.hid ho8
    obtain ⟨_, x0, x1, x2, x3, xf0, xf1, xf2, xf3⟩ := rgcells HX8.out
    obtain ⟨_, r0, r1, r2, r3, _⟩ := rgcells HR8.out
    clear hb8 ho8 m0 m1 m2 m3 hL8
    go_wp2_with fail
    obtain ⟨hg9, ho9⟩ := set4 HX8.out (.int .i64 k.major) (.int .i64 k.minor) (.slice k.eA k.ex.length k.eC) (.slice A8 L8.length c8)
    obtain ⟨w9, hw9⟩ : ∃ w9, w9 = (((w8.setCell ⟨w5.heap.size, 0, none⟩ (.int .i64 k.major)).setCell ⟨w5.heap.size, 1, none⟩ (.int .i64 k.minor)).setCell ⟨w5.heap.size, 2, none⟩ (.slice k.eA k.ex.length k.eC)).setCell ⟨w5.heap.size, 3, none⟩ (.slice A8 L8.length c8) := ⟨_, rfl⟩
    rw [← hw9] at hg9 ho9
    rw [← hw9]
    have hs58 : w.heap.size ≤ w5.heap.size := by have := HB4.out.size; have := HS45.out; omega
    have hb9 : Below w.heap.size w w9 := HB8.out.trans ((ho9.below (Nat.le_of_lt (Array.getElem?_eq_some_iff.1 HX8.out).1)).mono hs58)
    have hkp9 := ho9.kp HX8.out (ts := [27]) (by simp)
    have hown9 := own_kp HO8.out hkp9 (by decide)
    have HV9 := Lib.hid (show RgThere w9 k A8 L8 from ⟨HK.out.below hb9, plcs_ok (l := L8) (c := c8) (by rw [HL8.out, HMS.out]; rw [HL8.out] at hown9; exact hown9) (by rw [HL8.out]; exact hmS.out) HP.out hb9⟩)
    have HT9 := Lib.hid (HT8.out.other ⟨_, _, _, _, _, _, _, _, HX8.out⟩ ho9)
    have HU9 := Lib.hid (HU8.out.other ⟨_, _, _, _, _, _, _, _, HX8.out⟩ ho9)
    have hltA := (Array.getElem?_eq_some_iff.1 HA4.out).1
    have hltC := (Array.getElem?_eq_some_iff.1 HC4.out).1
    have hs45 := HS45.out
    have HY9 := Lib.hid ((ho9.block _ (Array.getElem?_eq_some_iff.1 HY8.out).1 (by omega)).trans HY8.out)
    have HR9 := Lib.hid ((ho9.block _ (Array.getElem?_eq_some_iff.1 HR8.out).1 hne1).trans HR8.out)
    have HA9 := Lib.hid ((ho9.block _ (Array.getElem?_eq_some_iff.1 HA8.out).1 (by omega)).trans HA8.out)
    have HC9 := Lib.hid ((ho9.block _ (Array.getElem?_eq_some_iff.1 HC8.out).1 (by omega)).trans HC8.out)
    have HX9 := Lib.hid hg9
    have HB9 := Lib.hid hb9
    clear hg9 ho9 hw9 hb9 hkp9 hown9 x0 x1 x2 x3 xf0 xf1 xf2 xf3 r0 r1 r2 r3
    refine (c5.out _ HB9.out).mono ?_; rintro e w10 ⟨⟨A10, c10, rfl, ho10⟩, hb10⟩
    have HX10 := Lib.hid (blk' hb10 HX9.out)
    have HY10 := Lib.hid (blk' hb10 HY9.out)
    have HA10 := Lib.hid (blk' hb10 HA9.out)
    have HC10 := Lib.hid (blk' hb10 HC9.out)
    have HT10 := Lib.hid (HT9.out.below hb10)
    have HU10 := Lib.hid (HU9.out.below hb10)
    have HV10 := Lib.hid (HV9.out.below hb10)
    have HB10 := Lib.hid (HB9.out.trans (hb10.mono HB9.out.size))
    have HW10 := Lib.hid (show RgThere w10 k A10 (packL 0 l).1 from ⟨HK.out.below HB10.out, ho10⟩)
    obtain ⟨_, y0, y1, y2, y3, yf0, yf1, yf2, yf3⟩ := rgcells HY10.out
    clear hb10 ho10
    go_wp2_with fail
    obtain ⟨hg11, ho11⟩ := set4 HY10.out (.int .i64 k.major) (.int .i64 k.minor) (.slice k.eA k.ex.length k.eC) (.slice A10 (packL 0 l).1.length c10)
    obtain ⟨w11, hw11⟩ : ∃ w11, w11 = (((w10.setCell ⟨w5.heap.size + 1, 0, none⟩ (.int .i64 k.major)).setCell ⟨w5.heap.size + 1, 1, none⟩ (.int .i64 k.minor)).setCell ⟨w5.heap.size + 1, 2, none⟩ (.slice k.eA k.ex.length k.eC)).setCell ⟨w5.heap.size + 1, 3, none⟩ (.slice A10 (packL 0 l).1.length c10) := ⟨_, rfl⟩
    rw [← hw11] at hg11 ho11
    rw [← hw11]
    have HT11 := Lib.hid (HT10.out.other ⟨_, _, _, _, _, _, _, _, HY10.out⟩ ho11)
    have HU11 := Lib.hid (HU10.out.other ⟨_, _, _, _, _, _, _, _, HY10.out⟩ ho11)
    have HV11 := Lib.hid (HV10.out.other ⟨_, _, _, _, _, _, _, _, HY10.out⟩ ho11)
    have HW11 := Lib.hid (HW10.out.other ⟨_, _, _, _, _, _, _, _, HY10.out⟩ ho11)
    have HX11 := Lib.hid ((ho11.block _ (Array.getElem?_eq_some_iff.1 HX10.out).1 (by omega)).trans HX10.out)
    have HA11 := Lib.hid ((ho11.block _ (Array.getElem?_eq_some_iff.1 HA10.out).1 (by omega)).trans HA10.out)
    have HC11 := Lib.hid ((ho11.block _ (Array.getElem?_eq_some_iff.1 HC10.out).1 (by omega)).trans HC10.out)
    have HB11 := Lib.hid (show Below w.heap.size w w11 from HB10.out.trans ((ho11.below (Nat.le_of_lt (Array.getElem?_eq_some_iff.1 HY10.out).1)).mono (by omega)))
    have HY11 := Lib.hid hg11
    clear hg11 ho11 hw11 y0 y1 y2 y3 yf0 yf1 yf2 yf3 hs45 hltA hltC hs58
    refine (compactBegun_any _).mono ?_; rintro e w12 ⟨rfl, hb12⟩
    have HT12 := Lib.hid (HT11.out.below hb12)
    have HU12 := Lib.hid (HU11.out.below hb12)
    have HV12 := Lib.hid (HV11.out.below hb12)
    have HW12 := Lib.hid (HW11.out.below hb12)
    have HC12 := Lib.hid (blk' hb12 HC11.out)
    have HY12 := Lib.hid (blk' hb12 HY11.out)
    have HB12 := Lib.hid (HB11.out.trans (hb12.mono HB11.out.size))
    obtain ⟨_, a0, a1, a2, a3, _⟩ := rgcells (blk' hb12 HA11.out)
    obtain ⟨_, b0, b1, b2, b3, _⟩ := rgcells (blk' hb12 HX11.out)
    have c6 := Lib.hid (registryIs_any 0 k1 k A1 A8 n1 c8 l1 L8 w12 HT12.out.1 HT12.out.2 HV12.out.1 HV12.out.2 (fun _ => by have := HS1.out.1 (by trivial); rw [HL8.out]; exact this) (fun e => absurd rfl e))
    clear hb12
    go_wp2_with fail
    refine (c6.out).mono ?_; rintro e w13 ⟨rfl, hb13⟩
    obtain ⟨_, d0, d1, d2, d3, _⟩ := rgcells (blk' hb13 HC12.out)
    obtain ⟨_, e0, e1, e2, e3, _⟩ := rgcells (blk' hb13 HY12.out)
    have c7 := Lib.hid (registryIs_any 0 k3' k A3 A10 n3 c10 l3 (packL 0 l).1 w13 (HU12.out.below hb13).1 (HU12.out.below hb13).2 (HW12.out.below hb13).1 (HW12.out.below hb13).2 (fun _ => HS3.out.1 (by trivial)) (fun e => absurd rfl e))
    have HB13 := Lib.hid (HB12.out.trans (hb13.mono HB12.out.size))
    clear hb13 a0 a1 a2 a3 b0 b1 b2 b3 c6
    go_wp2_with fail
    refine (c7.out).mono ?_; rintro e w14 ⟨rfl, hb14⟩
    have HB14 := Lib.hid (HB13.out.trans (hb14.mono HB13.out.size))
    clear hb14
    go_wp2_with fail
    go_ret
    exact ⟨by simp, HB14.out⟩
  · have t' : (E == 0) = false := by simp [t]
    have T := Lib.hid t
    have hn0 : n = 0 := by have := HN.out; rwa [if_pos t] at this
    subst hn0
    have hdE : decide (E = 0) = false := decide_eq_false t
    clear t
    go_wp2_with fail
    refine (compactBegun_any _).mono ?_; rintro e w8 ⟨rfl, hb8⟩
    have HB8 := Lib.hid (HB7.out.trans (hb8.mono HB7.out.size))
    have HU8 := Lib.hid (HU7.out.below hb8)
    have HC8 := Lib.hid (blk' hb8 HC7.out)
    have HY8 := Lib.hid (blk' hb8 HY7.out)
    obtain ⟨_, a0, a1, a2, a3, _⟩ := rgcells (blk' hb8 HA7.out)
    obtain ⟨_, b0, b1, b2, b3, _⟩ := rgcells (blk' hb8 HX7.out)
    have hT8 := HT7.out.below hb8
    have c6 := Lib.hid (show Calls Tryz.prog 25 #[rgV k1 A1 l1 n1, .int .i64 E, .int .i64 E, .agg #[.int .i64 0, .int .i64 0, .slice none 0 0, .slice none 0 0]] w8 fun e w' => e = .returned (.bool true) ∧ Below w8.heap.size w8 w' from
      registryIs_any E k1 noKrn A1 none n1 0 l1 [] w8 hT8.1 hT8.2 (noKrn_ok _) ⟨Row.nil, Nat.zero_le _, by simp⟩ (fun e => absurd e T.out) (fun e => HS1.out.2 e))
    clear hb8 hT8
    go_wp2_with fail
    refine (c6.out).mono ?_; rintro e w9 ⟨rfl, hb9⟩
    have HB9 := Lib.hid (HB8.out.trans (hb9.mono HB8.out.size))
    obtain ⟨_, d0, d1, d2, d3, _⟩ := rgcells (blk' hb9 HC8.out)
    obtain ⟨_, e0, e1, e2, e3, _⟩ := rgcells (blk' hb9 HY8.out)
    have hT9 := HU8.out.below hb9
    have c7 := Lib.hid (show Calls Tryz.prog 25 #[rgV k3' A3 l3 n3, .int .i64 E, .int .i64 E, .agg #[.int .i64 0, .int .i64 0, .slice none 0 0, .slice none 0 0]] w9 fun e w' => e = .returned (.bool true) ∧ Below w9.heap.size w9 w' from
      registryIs_any E k3' noKrn A3 none n3 0 l3 [] w9 hT9.1 hT9.2 (noKrn_ok _) ⟨Row.nil, Nat.zero_le _, by simp⟩ (fun e => absurd e T.out) (fun e => HS3.out.2 e))
    clear hb9 hT9 c6 a0 a1 a2 a3 b0 b1 b2 b3
    go_wp2_with fail
    refine (c7.out).mono ?_; rintro e w10 ⟨rfl, hb10⟩
    have HB10 := Lib.hid (HB9.out.trans (hb10.mono HB9.out.size))
    clear hb10
    go_wp2_with fail
    go_ret
    exact ⟨by simp, HB10.out⟩

set_option maxRecDepth 100000 in
theorem compactTells_lifted (os : Os) (started : os.Started) (H : Type) (enc : TypeId × Value → H) :
    ReturnsInHanded {} Tryz.checked os 5 .any (Rows.compactTellsSpec.pre6 enc Tryz.prog Tryz.f5 Rows.compactTellsRow.domain false) (Rows.compactTellsSpec.post enc Tryz.prog Tryz.f5 false true false false) := by
  refine returnsInHanded_of_change_sized (C := Tryz.checked) Tryz.own started (by kernel_rfl) Tryz.func5
    (ChangeSpec.witness6 (enc := enc) (C := Tryz.checked) false ⟨#[], #[.agg #[.int .i64 0, .int .i64 0, .slice none 0 0, .slice none 0 0]], []⟩ 8 (by kernel_rfl) (by kernel_rfl) (by kernel_rfl) (by kernel_rfl)) ?_
  intro W base args ds gs before hval0 hW hcnd hsz0 _
  have hval : ∀ (j : Nat) t v, Tryz.f5.params[j]? = some t → args[j]? = some v → Value.okWide Tryz.prog W .any base t v := hval0
  have hsz : (DataW.weightsEach Tryz.prog (Tryz.f5.params.toList ++ Rows.compactTellsSpec.plain.varTypes Tryz.prog) (ds ++ gs)).all (· ≤ reachBytes) = true := hsz0
  have hW' := hW
  obtain ⟨p, q, hA0, hV, rfl, hfz, hnd⟩ := hW
  have hA : DataW.TrodAll enc Tryz.prog W 0 (fun _ => true) true Tryz.f5.params.toList args.toList ds p := hA0
  rw [Tryz.params5] at hA hval hsz
  obtain ⟨v0, vs0, d0, ds0, p0, q0, hargs, rfl, rfl, h0, r0⟩ := trodAll_cons hA
  obtain ⟨rfl, rfl, rfl⟩ := trodAll_nil r0
  obtain rfl : args = #[v0] := by cases args; simp_all
  obtain ⟨rfl, rfl⟩ := trodVars_none hV
  have ft0 := fits_each hsz (j := 0) rfl rfl
  obtain ⟨rK, rA, rL, rC, rfl, okk0, okl0⟩ := open_Registry (hval 0 27 v0 rfl rfl) h0 ft0
  refine (CompactTells_any rK rA rL rC W okk0 okl0).mono fun e W' ⟨he, hb⟩ => ?_
  subst he
  exact ⟨_, rfl, law_post Tryz.laidOut hW' rfl (by decide +kernel) rfl Tryz.underlying4 rfl rfl rfl hb⟩

theorem compactTells_holds : Rows.CompactTellsSaid :=
  OpenClaim.holds_of_wide 5 Tryz.f5 rfl rfl rfl rfl rfl rfl rfl ⟨rfl, rfl, rfl, rfl, rfl⟩ rfl rfl rfl rfl rfl (by kernel_rfl) Tryz.func5 (by kernel_rfl)
    (of_decide_eq_true (by kernel_rfl)) (by unfold Func.isWrapper; first | (rw [if_pos (by decide +kernel)]; kernel_rfl) | (rw [if_neg (by decide +kernel)]; exact ⟨rfl, rfl⟩))
    (fun os started H enc _ => compactTells_lifted os started H enc)
#print axioms compactTells_holds


end Go.Proofs.YtjnfemcfohflnaaGreat
