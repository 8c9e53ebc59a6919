import Derived.Test.YtjnfemcfohflnaaGreatG10
import Derived.Test.YtjnfemcfohflnaaGreatG08
/- RegistryTells: Check and Find answer just what the document says, errors too. No condition. -/
namespace Go.Proofs.YtjnfemcfohflnaaGreat
open Go.ChangeShapes Go.WideShapes Go.ChangeAt Go.RowKit Go.WideMaps Go.WideElems
open Go.ChangeMaps (setBlock shut_map_nil open_string shut_string keptBut_setBlock frozen?_setBlock heap_setBlock_same)
open Gs (Tx)

theorem rcells {W : World} {b : Nat} {v0 v1 v2 v3 : Value} {t : TypeId} (h : W.heap[b]? = some (.cells #[v0, v1, v2, v3] t (0, 0))) :
    W.cell? ⟨b, 0, none⟩ = some v0 ∧ W.cell? ⟨b, 1, none⟩ = some v1 ∧ W.cell? ⟨b, 2, none⟩ = some v2 ∧ W.cell? ⟨b, 3, none⟩ = some v3 := ⟨heap_cell h 0, heap_cell h 1, heap_cell h 2, heap_cell h 3⟩
theorem blk {W W' : World} {b : Nat} {o : Obj} (hb : Below W.heap.size W W') (h : W.heap[b]? = some o) : W'.heap[b]? = some o := (hb.block b (Array.getElem?_eq_some_iff.1 h).1).trans h

set_option maxRecDepth 100000 in
set_option maxHeartbeats 8000000 in
theorem RegistryTells_any (k : Krn) (A : Option Addr) (l : List Plc) (c : Nat) (nm : ByteArray) (w : World) (hk : k.ok w) (h : PlsOk w A l) (_hn : nm.size ≤ 140737488351232) :
    Calls Tryz.prog 3 #[.agg #[.int .i64 k.major, .int .i64 k.minor, .slice k.eA k.ex.length k.eC, .slice A l.length c], .string nm] w fun e w' => e = .returned (.bool true) ∧ Below w.heap.size w w' := by
  obtain ⟨w0, hw0⟩ : ∃ w0, w0 = w.alloc (.cells #[.int .i64 k.major, .int .i64 k.minor, .slice k.eA k.ex.length k.eC, .slice A l.length c] 27) := ⟨_, rfl⟩
  obtain ⟨g0, g1, g2, g3, hz, hb0⟩ := box4 hw0
  have HR0 := Lib.hid (show w0.heap[w.heap.size]? = some (.cells #[.int .i64 k.major, .int .i64 k.minor, .slice k.eA k.ex.length k.eC, .slice A l.length c] 27 (0, 0)) by rw [hw0]; exact heap_alloc_new w _)
  have H0 := Lib.hid hb0
  have hw0' := hw0.symm
  have HP := Lib.hid h
  have HK := Lib.hid hk
  have c1 := Lib.hid (fun W (hb : Below w.heap.size w W) => RFind_any k A c l nm W (hk.below hb) (h.below hb))
  have c2 := Lib.hid (fun W (hb : Below w.heap.size w W) => CheckRegistry_any k A c l W (hk.below hb) (h.below hb))
  have c3 := Lib.hid (fun W (hb : Below w.heap.size w W) => RegCheck_any k A c l W (hk.below hb) (h.below hb))
  have c4 := Lib.hid (fun W (hb : Below w.heap.size w W) => PlaceOf_any A c l nm W (h.row.below hb) h.len)
  obtain ⟨E, hE⟩ : ∃ E, E = fndErr k l nm := ⟨_, rfl⟩
  have HE := Lib.hid hE
  rw [← hE] at c1
  unfold fndErr at hE
  obtain ⟨R, hR⟩ : ∃ R, R = rgErr k l := ⟨_, rfl⟩
  have HR := Lib.hid hR
  rw [← hR] at c2 c3 hE
  clear hw0 hb0 hz h hk hR
  by_cases t1 : R = 0
  · rw [if_neg (by omega)] at hE
    rcases find_cases (named nm) l with ⟨e1, e2⟩ | ⟨j, hj, e1, e2⟩
    · rw [e1] at hE c4
      rw [if_pos (by omega)] at hE
      have HN := Lib.hid (show fndErr k l nm ≠ 0 by rw [← HE.out]; omega)
      have c5 := Lib.hid (show ∀ W, Below w.heap.size w W → ∀ X : Plc, X = noPlc → Calls Tryz.prog 18 #[X.m.v, .agg #[.string ⟨#[]⟩, .int .i64 0, .int .i64 0, .string ⟨#[]⟩, .slice none 0 0, .slice none 0 0, .slice none 0 0]] W fun e w' => e = .returned (.bool true) ∧ Below W.heap.size W w' from fun W _ X hX => SameModule_any X.m noMod W (by rw [hX]; exact ⟨rfl, rfl, rfl, rfl, rfl, rfl, rfl⟩) (by rw [hX]; exact noMod_ok W) (noMod_ok W))
      subst t1 hE
      clear e1 e2
      go_enter Tryz.func3, Tryz.ntmps3
      go_wp2_with fail
      refine (c1.out _ H0.out).mono ?_; rintro e w1 ⟨⟨X, rfl, hX⟩, hb1⟩
      have HB1 := Lib.hid (H0.out.trans (hb1.mono H0.out.size))
      have HFX := Lib.hid hX
      obtain ⟨w2, hw2⟩ : ∃ w2, w2 = w1.alloc (.cells #[.string X.m.name, .int .i64 X.m.major, .int .i64 X.m.minor, .string X.m.text, .slice X.m.eA X.m.ex.length X.m.eC, .slice X.m.iA X.m.im.length X.m.iC, .slice X.m.pA X.m.pa.length X.m.pC, .int .i64 X.first] 33) := ⟨_, rfl⟩
      have hb2 : Below w1.heap.size w1 w2 := hw2 ▸ (Below.refl _ _).alloc (Nat.le_refl _) _
      have HX2 := Lib.hid (show w2.heap[w1.heap.size]? = some (.cells #[.string X.m.name, .int .i64 X.m.major, .int .i64 X.m.minor, .string X.m.text, .slice X.m.eA X.m.ex.length X.m.eC, .slice X.m.iA X.m.im.length X.m.iC, .slice X.m.pA X.m.pa.length X.m.pC, .int .i64 X.first] 33 (0, 0)) by rw [hw2]; exact heap_alloc_new w1 _)
      have HR2 := Lib.hid (blk hb2 (blk hb1 HR0.out))
      have HB2 := Lib.hid (HB1.out.trans (hb2.mono HB1.out.size))
      have HS2 := Lib.hid (show w1.heap.size < w2.heap.size from (Array.getElem?_eq_some_iff.1 HX2.out).1)
      have HW2 := Lib.hid hb2
      obtain ⟨k0, k1, k2, k3⟩ := rcells HR2.out
      have hw2' := hw2.symm
      clear hX hb1 hw2 hb2 g0 g1 g2 g3
      go_wp2_with fail
      refine (c2.out _ HB2.out).mono ?_; rintro e w3 ⟨rfl, hb3⟩
      have HX3 := Lib.hid (blk hb3 HX2.out)
      have HR3 := Lib.hid (blk hb3 HR2.out)
      have HB3 := Lib.hid (HB2.out.trans (hb3.mono HB2.out.size))
      have HW3 := Lib.hid (HW2.out.trans (hb3.mono HW2.out.size))
      obtain ⟨w4, hw4⟩ : ∃ w4, w4 = w3.alloc (.cells #[.string ⟨#[]⟩, .int .i64 0, .int .i64 0, .string ⟨#[]⟩, .slice none 0 0, .slice none 0 0, .slice none 0 0, .int .i64 0] 33) := ⟨_, rfl⟩
      have hb4 : Below w3.heap.size w3 w4 := hw4 ▸ (Below.refl _ _).alloc (Nat.le_refl _) _
      have HY4 := Lib.hid (show w4.heap[w3.heap.size]? = some (.cells #[.string ⟨#[]⟩, .int .i64 0, .int .i64 0, .string ⟨#[]⟩, .slice none 0 0, .slice none 0 0, .slice none 0 0, .int .i64 0] 33 (0, 0)) by rw [hw4]; exact heap_alloc_new w3 _)
      have HX4 := Lib.hid (blk hb4 HX3.out)
      have HR4 := Lib.hid (blk hb4 HR3.out)
      have HB4 := Lib.hid (HB3.out.trans (hb4.mono HB3.out.size))
      have HW4 := Lib.hid (HW3.out.trans (hb4.mono HW3.out.size))
      obtain ⟨l0, l1, l2, l3⟩ := rcells HR4.out
      have hw4' := hw4.symm
      clear hb3 hw4 hb4 k0 k1 k2 k3
      have hxn := HFX.out.1 HN.out
      have HXN := Lib.hid hxn
      have hx0 : X.first = 0 := by rw [hxn]; rfl
      clear hxn
      go_wp2_with fail
      refine (c4.out _ HB4.out).mono ?_; rintro e w5 ⟨rfl, hb5⟩
      have HX5 := Lib.hid (blk hb5 HX4.out)
      have HY5 := Lib.hid (blk hb5 HY4.out)
      have HR5 := Lib.hid (blk hb5 HR4.out)
      have HB5 := Lib.hid (HB4.out.trans (hb5.mono HB4.out.size))
      have HW5 := Lib.hid (HW4.out.trans (hb5.mono HW4.out.size))
      clear hb5 l0 l1 l2 l3
      go_wp2_with fail
      refine (registryBegun_any _).mono ?_; rintro e w6 ⟨rfl, hb6⟩
      have HX6 := Lib.hid (blk hb6 HX5.out)
      have HY6 := Lib.hid (blk hb6 HY5.out)
      have HB6 := Lib.hid (HB5.out.trans (hb6.mono HB5.out.size))
      have HW6 := Lib.hid (HW5.out.trans (hb6.mono HW5.out.size))
      obtain ⟨m0, m1, m2, m3⟩ := rcells (blk hb6 HR5.out)
      clear hb6
      go_wp2_with fail
      refine (c3.out _ HB6.out).mono ?_; rintro e w7 ⟨rfl, hb7⟩
      obtain ⟨⟨x0, x1, x2, x3, x4, x5, x6, x7⟩, _⟩ := pcells (blk hb7 HX6.out)
      obtain ⟨⟨y0, y1, y2, y3, y4, y5, y6, y7⟩, _⟩ := pcells (blk hb7 HY6.out)
      have HB7 := Lib.hid (HB6.out.trans (hb7.mono HB6.out.size))
      have HW7 := Lib.hid (HW6.out.trans (hb7.mono HW6.out.size))
      clear hb7 m0 m1 m2 m3
      go_wp2_with fail
      refine (c5.out _ HB7.out X HXN.out).mono ?_; rintro e w8 ⟨rfl, hb8⟩
      go_wp2_with fail
      go_ret
      exact ⟨by simp, HB7.out.trans (hb8.mono HB7.out.size)⟩
    · rw [e1] at hE c4
      rw [if_neg (by omega)] at hE
      have HN := Lib.hid (show fndErr k l nm = 0 by rw [← HE.out]; exact hE)
      have HJ := Lib.hid e1
      have hlen := HP.out.len
      unfold big at hlen
      have hj' : (j : Int) < l.length := by omega
      have KJ := Lib.hid (fun W (hbW : Below w.heap.size w W) => plc_at HP.out.row hbW j hj)
      have hx := HP.out.each l[j] (List.getElem_mem _)
      have HFJ := Lib.hid (show ∀ W b X, FoundIs k l nm W b X → X.first = (l[j]'hj).first ∧ SameC X.m (l[j]'hj).m ∧ X.m.ok W from fun W b X hX => ⟨(hX.2.1 HN.out j hj HJ.out).1, (hX.2.1 HN.out j hj HJ.out).2.1, hX.2.2⟩)
      obtain ⟨y, hy⟩ : ∃ y, y = l[j]'hj := ⟨_, rfl⟩
      simp only [← hy] at KJ hx HFJ
      have HYO := Lib.hid hx
      obtain ⟨ad, rfl, hab, _⟩ := KJ.out _ (Below.refl _ _)
      have hj0 : ¬ (j : Int) < 0 := by omega
      subst t1 hE
      clear e1 e2 hx hy
      go_enter Tryz.func3, Tryz.ntmps3
      go_wp2_with fail
      refine (c1.out _ H0.out).mono ?_; rintro e w1 ⟨⟨X, rfl, hX⟩, hb1⟩
      have HB1 := Lib.hid (H0.out.trans (hb1.mono H0.out.size))
      have HFX := Lib.hid hX
      obtain ⟨w2, hw2⟩ : ∃ w2, w2 = w1.alloc (.cells #[.string X.m.name, .int .i64 X.m.major, .int .i64 X.m.minor, .string X.m.text, .slice X.m.eA X.m.ex.length X.m.eC, .slice X.m.iA X.m.im.length X.m.iC, .slice X.m.pA X.m.pa.length X.m.pC, .int .i64 X.first] 33) := ⟨_, rfl⟩
      have hb2 : Below w1.heap.size w1 w2 := hw2 ▸ (Below.refl _ _).alloc (Nat.le_refl _) _
      have HX2 := Lib.hid (show w2.heap[w1.heap.size]? = some (.cells #[.string X.m.name, .int .i64 X.m.major, .int .i64 X.m.minor, .string X.m.text, .slice X.m.eA X.m.ex.length X.m.eC, .slice X.m.iA X.m.im.length X.m.iC, .slice X.m.pA X.m.pa.length X.m.pC, .int .i64 X.first] 33 (0, 0)) by rw [hw2]; exact heap_alloc_new w1 _)
      have HR2 := Lib.hid (blk hb2 (blk hb1 HR0.out))
      have HB2 := Lib.hid (HB1.out.trans (hb2.mono HB1.out.size))
      have HS2 := Lib.hid (show w1.heap.size < w2.heap.size from (Array.getElem?_eq_some_iff.1 HX2.out).1)
      have HW2 := Lib.hid hb2
      obtain ⟨k0, k1, k2, k3⟩ := rcells HR2.out
      have hw2' := hw2.symm
      clear hX hb1 hw2 hb2 g0 g1 g2 g3
      go_wp2_with fail
      refine (c2.out _ HB2.out).mono ?_; rintro e w3 ⟨rfl, hb3⟩
      have HX3 := Lib.hid (blk hb3 HX2.out)
      have HR3 := Lib.hid (blk hb3 HR2.out)
      have HB3 := Lib.hid (HB2.out.trans (hb3.mono HB2.out.size))
      have HW3 := Lib.hid (HW2.out.trans (hb3.mono HW2.out.size))
      obtain ⟨w4, hw4⟩ : ∃ w4, w4 = w3.alloc (.cells #[.string ⟨#[]⟩, .int .i64 0, .int .i64 0, .string ⟨#[]⟩, .slice none 0 0, .slice none 0 0, .slice none 0 0, .int .i64 0] 33) := ⟨_, rfl⟩
      have hb4 : Below w3.heap.size w3 w4 := hw4 ▸ (Below.refl _ _).alloc (Nat.le_refl _) _
      have HY4 := Lib.hid (show w4.heap[w3.heap.size]? = some (.cells #[.string ⟨#[]⟩, .int .i64 0, .int .i64 0, .string ⟨#[]⟩, .slice none 0 0, .slice none 0 0, .slice none 0 0, .int .i64 0] 33 (0, 0)) by rw [hw4]; exact heap_alloc_new w3 _)
      have HX4 := Lib.hid (blk hb4 HX3.out)
      have HR4 := Lib.hid (blk hb4 HR3.out)
      have HB4 := Lib.hid (HB3.out.trans (hb4.mono HB3.out.size))
      have HW4 := Lib.hid (HW3.out.trans (hb4.mono HW3.out.size))
      obtain ⟨l0, l1, l2, l3⟩ := rcells HR4.out
      have hw4' := hw4.symm
      clear hb3 hw4 hb4 k0 k1 k2 k3
      obtain ⟨hx0, hxs, hxo⟩ := HFJ.out _ _ _ HFX.out
      have HXS := Lib.hid hxs
      have HXO := Lib.hid hxo
      have HB1w := Lib.hid (show Below w1.heap.size w1 w1 from Below.refl _ _)
      clear hxs hxo
      go_wp2_with fail
      refine (c4.out _ HB4.out).mono ?_; rintro e w5 ⟨rfl, hb5⟩
      have HX5 := Lib.hid (blk hb5 HX4.out)
      have HY5 := Lib.hid (blk hb5 HY4.out)
      have HR5 := Lib.hid (blk hb5 HR4.out)
      have HB5 := Lib.hid (HB4.out.trans (hb5.mono HB4.out.size))
      have HW5 := Lib.hid (HW4.out.trans (hb5.mono HW4.out.size))
      clear hb5 l0 l1 l2 l3
      obtain ⟨l0, l1, l2, l3⟩ := rcells HR5.out
      obtain ⟨_, ea, _, p0, p1, p2, p3, p4, p5, p6, p7⟩ := KJ.out _ HB5.out
      obtain rfl := Option.some.inj ea
      obtain ⟨⟨y0, y1, y2, y3, y4, y5, y6, y7⟩, f0, f1, f2, f3, f4, f5, f6, f7⟩ := pcells HY5.out
      go_wp2_with fail
      obtain ⟨w6, hw6⟩ : ∃ w6, w6 = (((((((w5.setCell ⟨w3.heap.size, 0, none⟩ (.string y.m.name)).setCell ⟨w3.heap.size, 1, none⟩ (.int .i64 y.m.major)).setCell ⟨w3.heap.size, 2, none⟩ (.int .i64 y.m.minor)).setCell ⟨w3.heap.size, 3, none⟩ (.string y.m.text)).setCell ⟨w3.heap.size, 4, none⟩ (.slice y.m.eA y.m.ex.length y.m.eC)).setCell ⟨w3.heap.size, 5, none⟩ (.slice y.m.iA y.m.im.length y.m.iC)).setCell ⟨w3.heap.size, 6, none⟩ (.slice y.m.pA y.m.pa.length y.m.pC)).setCell ⟨w3.heap.size, 7, none⟩ (.int .i64 y.first) := ⟨_, rfl⟩
      obtain ⟨hg, ho⟩ := set8 HY5.out (.string y.m.name) (.int .i64 y.m.major) (.int .i64 y.m.minor) (.string y.m.text) (.slice y.m.eA y.m.ex.length y.m.eC) (.slice y.m.iA y.m.im.length y.m.iC) (.slice y.m.pA y.m.pa.length y.m.pC) (.int .i64 y.first)
      rw [← hw6] at hg ho
      rw [← hw6]
      have hlt := (Array.getElem?_eq_some_iff.1 HX3.out).1
      have hlt0 := (Array.getElem?_eq_some_iff.1 HR3.out).1
      have h34 := HW3.out.size
      have hs0 := HB3.out.size
      have hs5 := (Array.getElem?_eq_some_iff.1 HY5.out).1
      have HX6 := Lib.hid ((ho.block w1.heap.size (Array.getElem?_eq_some_iff.1 HX5.out).1 (by omega)).trans HX5.out)
      have HR6 := Lib.hid ((ho.block w.heap.size (Array.getElem?_eq_some_iff.1 HR5.out).1 (by omega)).trans HR5.out)
      have HY6 := Lib.hid hg
      have HB6 := Lib.hid (HB5.out.trans ((ho.below (by omega)).mono (by omega)))
      have HW6 := Lib.hid (HW5.out.trans ((ho.below (by omega)).mono (by omega)))
      clear hg ho hw6 hlt hlt0 h34 hs0 hs5 l0 l1 l2 l3 p0 p1 p2 p3 p4 p5 p6 p7 y0 y1 y2 y3 y4 y5 y6 y7 f0 f1 f2 f3 f4 f5 f6 f7
      have c6 := Lib.hid (fun W (hb : Below w1.heap.size w1 W) (hb2 : Below w.heap.size w W) => SameModule_any X.m y.m W HXS.out (HXO.out.below hb) (HYO.out.below hb2))
      clear HFX HFJ
      go_wp2_with fail
      refine (registryBegun_any _).mono ?_; rintro e w7 ⟨rfl, hb7⟩
      have HX7 := Lib.hid (blk hb7 HX6.out)
      have HY7 := Lib.hid (blk hb7 HY6.out)
      have HB7 := Lib.hid (HB6.out.trans (hb7.mono HB6.out.size))
      have HW7 := Lib.hid (HW6.out.trans (hb7.mono HW6.out.size))
      obtain ⟨m0, m1, m2, m3⟩ := rcells (blk hb7 HR6.out)
      clear hb7
      go_wp2_with fail
      refine (c3.out _ HB7.out).mono ?_; rintro e w8 ⟨rfl, hb8⟩
      obtain ⟨⟨x0, x1, x2, x3, x4, x5, x6, x7⟩, _⟩ := pcells (blk hb8 HX7.out)
      obtain ⟨⟨y0, y1, y2, y3, y4, y5, y6, y7⟩, _⟩ := pcells (blk hb8 HY7.out)
      have HB8 := Lib.hid (HB7.out.trans (hb8.mono HB7.out.size))
      have HW8 := Lib.hid (HW7.out.trans (hb8.mono HW7.out.size))
      clear hb8 m0 m1 m2 m3
      go_wp2_with fail
      refine (c6.out _ HW8.out HB8.out).mono ?_; rintro e w9 ⟨rfl, hb9⟩
      go_wp2_with fail
      go_ret
      exact ⟨by simp, HB8.out.trans (hb9.mono HB8.out.size)⟩
  · rw [if_pos t1] at hE
    have HN := Lib.hid (show fndErr k l nm ≠ 0 by rw [← HE.out, hE]; exact t1)
    have c5 := Lib.hid (show ∀ W, Below w.heap.size w W → ∀ X : Plc, X = noPlc → Calls Tryz.prog 18 #[X.m.v, .agg #[.string ⟨#[]⟩, .int .i64 0, .int .i64 0, .string ⟨#[]⟩, .slice none 0 0, .slice none 0 0, .slice none 0 0]] W fun e w' => e = .returned (.bool true) ∧ Below W.heap.size W w' from fun W _ X hX => SameModule_any X.m noMod W (by rw [hX]; exact ⟨rfl, rfl, rfl, rfl, rfl, rfl, rfl⟩) (by rw [hX]; exact noMod_ok W) (noMod_ok W))
    have t1' : (R == 0) = false := by simp [t1]
    subst hE
    clear t1 c4
    go_enter Tryz.func3, Tryz.ntmps3
    go_wp2_with fail
    refine (c1.out _ H0.out).mono ?_; rintro e w1 ⟨⟨X, rfl, hX⟩, hb1⟩
    have HB1 := Lib.hid (H0.out.trans (hb1.mono H0.out.size))
    have HFX := Lib.hid hX
    obtain ⟨w2, hw2⟩ : ∃ w2, w2 = w1.alloc (.cells #[.string X.m.name, .int .i64 X.m.major, .int .i64 X.m.minor, .string X.m.text, .slice X.m.eA X.m.ex.length X.m.eC, .slice X.m.iA X.m.im.length X.m.iC, .slice X.m.pA X.m.pa.length X.m.pC, .int .i64 X.first] 33) := ⟨_, rfl⟩
    have hb2 : Below w1.heap.size w1 w2 := hw2 ▸ (Below.refl _ _).alloc (Nat.le_refl _) _
    have HX2 := Lib.hid (show w2.heap[w1.heap.size]? = some (.cells #[.string X.m.name, .int .i64 X.m.major, .int .i64 X.m.minor, .string X.m.text, .slice X.m.eA X.m.ex.length X.m.eC, .slice X.m.iA X.m.im.length X.m.iC, .slice X.m.pA X.m.pa.length X.m.pC, .int .i64 X.first] 33 (0, 0)) by rw [hw2]; exact heap_alloc_new w1 _)
    have HR2 := Lib.hid (blk hb2 (blk hb1 HR0.out))
    have HB2 := Lib.hid (HB1.out.trans (hb2.mono HB1.out.size))
    have HS2 := Lib.hid (show w1.heap.size < w2.heap.size from (Array.getElem?_eq_some_iff.1 HX2.out).1)
    have HW2 := Lib.hid hb2
    obtain ⟨k0, k1, k2, k3⟩ := rcells HR2.out
    have hw2' := hw2.symm
    clear hX hb1 hw2 hb2 g0 g1 g2 g3
    go_wp2_with fail
    refine (c2.out _ HB2.out).mono ?_; rintro e w3 ⟨rfl, hb3⟩
    have HX3 := Lib.hid (blk hb3 HX2.out)
    have HR3 := Lib.hid (blk hb3 HR2.out)
    have HB3 := Lib.hid (HB2.out.trans (hb3.mono HB2.out.size))
    have HW3 := Lib.hid (HW2.out.trans (hb3.mono HW2.out.size))
    obtain ⟨w4, hw4⟩ : ∃ w4, w4 = w3.alloc (.cells #[.string ⟨#[]⟩, .int .i64 0, .int .i64 0, .string ⟨#[]⟩, .slice none 0 0, .slice none 0 0, .slice none 0 0, .int .i64 0] 33) := ⟨_, rfl⟩
    have hb4 : Below w3.heap.size w3 w4 := hw4 ▸ (Below.refl _ _).alloc (Nat.le_refl _) _
    have HY4 := Lib.hid (show w4.heap[w3.heap.size]? = some (.cells #[.string ⟨#[]⟩, .int .i64 0, .int .i64 0, .string ⟨#[]⟩, .slice none 0 0, .slice none 0 0, .slice none 0 0, .int .i64 0] 33 (0, 0)) by rw [hw4]; exact heap_alloc_new w3 _)
    have HX4 := Lib.hid (blk hb4 HX3.out)
    have HR4 := Lib.hid (blk hb4 HR3.out)
    have HB4 := Lib.hid (HB3.out.trans (hb4.mono HB3.out.size))
    have HW4 := Lib.hid (HW3.out.trans (hb4.mono HW3.out.size))
    obtain ⟨l0, l1, l2, l3⟩ := rcells HR4.out
    have hw4' := hw4.symm
    clear hb3 hw4 hb4 k0 k1 k2 k3
    have hxn := HFX.out.1 HN.out
    have HXN := Lib.hid hxn
    have hx0 : X.first = 0 := by rw [hxn]; rfl
    clear hxn
    go_wp2_with fail
    refine (registryBegun_any _).mono ?_; rintro e w5 ⟨rfl, hb5⟩
    have HX5 := Lib.hid (blk hb5 HX4.out)
    have HY5 := Lib.hid (blk hb5 HY4.out)
    have HB5 := Lib.hid (HB4.out.trans (hb5.mono HB4.out.size))
    have HW5 := Lib.hid (HW4.out.trans (hb5.mono HW4.out.size))
    obtain ⟨m0, m1, m2, m3⟩ := rcells (blk hb5 HR4.out)
    clear hb5
    go_wp2_with fail
    refine (c3.out _ HB5.out).mono ?_; rintro e w6 ⟨rfl, hb6⟩
    obtain ⟨⟨x0, x1, x2, x3, x4, x5, x6, x7⟩, _⟩ := pcells (blk hb6 HX5.out)
    obtain ⟨⟨y0, y1, y2, y3, y4, y5, y6, y7⟩, _⟩ := pcells (blk hb6 HY5.out)
    have HB6 := Lib.hid (HB5.out.trans (hb6.mono HB5.out.size))
    have HW6 := Lib.hid (HW5.out.trans (hb6.mono HW5.out.size))
    clear hb6 m0 m1 m2 m3
    go_wp2_with fail
    refine (c5.out _ HB6.out X HXN.out).mono ?_; rintro e w7 ⟨rfl, hb7⟩
    go_wp2_with fail
    go_ret
    exact ⟨by simp, HB6.out.trans (hb7.mono HB6.out.size)⟩

set_option maxRecDepth 100000 in
theorem registryTells_lifted (os : Os) (started : os.Started) (H : Type) (enc : TypeId × Value → H) :
    ReturnsInHanded {} Tryz.checked os 3 .any (Rows.registryTellsSpec.pre6 enc Tryz.prog Tryz.f3 Rows.registryTellsRow.domain false) (Rows.registryTellsSpec.post enc Tryz.prog Tryz.f3 false true false false) := by
  refine returnsInHanded_of_change_sized (C := Tryz.checked) Tryz.own started (by kernel_rfl) Tryz.func3
    (ChangeSpec.witness6 (enc := enc) (C := Tryz.checked) false ⟨#[], #[.agg #[.int .i64 0, .int .i64 0, .slice none 0 0, .slice none 0 0], .string ⟨#[]⟩], []⟩ 8 (by kernel_rfl) (by kernel_rfl) (by kernel_rfl) (by kernel_rfl)) ?_
  intro W base args ds gs before hval0 hW hcnd hsz0 _
  have hval : ∀ (j : Nat) t v, Tryz.f3.params[j]? = some t → args[j]? = some v → Value.okWide Tryz.prog W .any base t v := hval0
  have hsz : (DataW.weightsEach Tryz.prog (Tryz.f3.params.toList ++ Rows.registryTellsSpec.plain.varTypes Tryz.prog) (ds ++ gs)).all (· ≤ reachBytes) = true := hsz0
  have hW' := hW
  obtain ⟨p, q, hA0, hV, rfl, hfz, hnd⟩ := hW
  have hA : DataW.TrodAll enc Tryz.prog W 0 (fun _ => true) true Tryz.f3.params.toList args.toList ds p := hA0
  rw [Tryz.params3] at hA hval hsz
  obtain ⟨v0, vs0, d0, ds0, p0, q0, hargs, rfl, rfl, h0, r0⟩ := trodAll_cons hA
  obtain ⟨v1, vs1, d1, ds1, p1, q1, rfl, rfl, rfl, h1, r1⟩ := trodAll_cons r0
  obtain ⟨rfl, rfl, rfl⟩ := trodAll_nil r1
  obtain rfl : args = #[v0, v1] := by cases args; simp_all
  obtain ⟨rfl, rfl⟩ := trodVars_none hV
  have ft0 := fits_each hsz (j := 0) rfl rfl
  obtain ⟨rK, rA, rL, rC, rfl, okk0, okl0⟩ := open_Registry (hval 0 27 v0 rfl rfl) h0 ft0
  obtain ⟨name, rfl, rfl, rfl, w1⟩ := open_string Tryz.underlying9 (hval 1 9 v1 rfl rfl) h1
  have z1 : name.size ≤ 140737488351232 := by have := sized_string hsz (j := 1) (t := 9) rfl rfl; simpa [reachBytes] using this
  refine (RegistryTells_any rK rA rL rC name W okk0 okl0 z1).mono fun e W' ⟨he, hb⟩ => ?_
  subst he
  exact ⟨_, rfl, law_post Tryz.laidOut hW' rfl (by decide +kernel) rfl Tryz.underlying4 rfl rfl rfl hb⟩

theorem registryTells_holds : Rows.RegistryTellsSaid :=
  OpenClaim.holds_of_wide 3 Tryz.f3 rfl rfl rfl rfl rfl rfl rfl ⟨rfl, rfl, rfl, rfl, rfl⟩ rfl rfl rfl rfl rfl (by kernel_rfl) Tryz.func3 (by kernel_rfl)
    (of_decide_eq_true (by kernel_rfl)) (by unfold Func.isWrapper; first | (rw [if_pos (by decide +kernel)]; kernel_rfl) | (rw [if_neg (by decide +kernel)]; exact ⟨rfl, rfl⟩))
    (fun os started H enc _ => registryTells_lifted os started H enc)
#print axioms registryTells_holds


end Go.Proofs.YtjnfemcfohflnaaGreat
