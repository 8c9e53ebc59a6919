import Derived.Test.YtgkpbndeljnjcaaLinkLone
import Derived.Test.YtgkpbndeljnjcaaLinkBegun
import Derived.Test.YtgkpbndeljnjcaaPlcs2
/- LinkAlone: an image hangs on its own module and on those that it asks, and on no other one. No condition. -/
namespace Go.Proofs.Ytgkpbndeljnjcaa
open Go.ChangeShapes Go.WideShapes Go.ChangeAt Go.RowKit Go.WideMaps Go.WideElems Go.Deep
open Go.ChangeMaps (setBlock shut_map_nil open_string shut_string keptBut_setBlock frozen?_setBlock heap_setBlock_same)
open Gs (Tx)

theorem Try.bytesPlc : Try.prog.bytesOf 44 = 128 := by kernel_rfl
theorem placeds_fit {H : Type} {enc : TypeId × Value → H} {w : World} {base : Nat} {spare : Nat → Bool} {held : Bool} {A : Option Addr} {len cap : Nat} {d : DataW H} {p : List MemPlace}
    (h : DataW.Trod enc Try.prog w base spare held 22 (.slice A len cap) d p) (hF : Fits Try.prog 22 d) : len * 128 ≤ big := by
  obtain ⟨fuel, hf⟩ := h
  rcases Go.Deep.open_slice Try.underlying22 hf with ⟨e1, e2⟩ | ⟨a, len', cap', m, n', D, Pl, e1, _, hl, _, hm, e2, hi⟩
  · simp only [Value.cells, List.cons.injEq, and_true] at e1
    injection e1 with _ h1 h2
    subst h1
    exact Nat.zero_le _
  · simp only [Value.cells, List.cons.injEq, and_true] at e1
    injection e1 with _ h1 h2
    subst h1 h2
    have e3 := congrArg Prod.fst e2
    simp only at e3
    rw [e3] at hF
    have h1 := (fits_slice Try.underlying22 hF).1
    rw [reach_big, Try.bytesPlc] at h1
    simp only [List.length_map, List.length_range] at h1
    omega

theorem flat_put {l : List Plc} {n : Nat} (hn : n < l.length) (t : ByteArray) : (withText l n hn t).flatMap Plc.cells = (l.flatMap Plc.cells).set (n * 8 + 3) (.string t) := by
  have hf : ((l.take n).flatMap Plc.cells).length = n * 8 := by rw [flat_length (enc := Plc.cells) (k := 8) (fun _ => rfl), List.length_take]; congr 1; omega
  unfold withText
  rw [List.set_eq_take_append_cons_drop, if_pos hn]
  conv => rhs; rw [← List.take_append_drop n l, List.drop_eq_getElem_cons hn]
  simp only [List.flatMap_append, List.flatMap_cons]
  rw [List.set_append_right _ _ (by omega), hf, show n * 8 + 3 - n * 8 = 3 by omega]
  rfl
theorem PlcOwn.text {w : World} {base : Nat} {A : Option Addr} {K c : Nat} {l : List Plc} (h : PlcOwn w base (.slice A K c) l) {n : Nat} (hn : n < l.length) :
    ∃ g, A = some ⟨g, 0, none⟩ ∧ base ≤ g ∧ g < w.heap.size ∧ w.cell? ⟨g, n * 8 + 3, none⟩ = some (.string l[n].m.text) ∧ w.frozen? ⟨g, n * 8 + 3, none⟩ = false ∧
      ∀ t, PlcOwn (w.setCell ⟨g, n * 8 + 3, none⟩ (.string t)) base (.slice A K c) (withText l n hn t) := by
  obtain ⟨h1, h2⟩ := h
  rcases h2 with ⟨_, h0⟩ | ⟨g, cap, cur, hv, hg, hb, hnc, hcm, hsz, htk⟩
  · omega
  injection hv with ha hk hc
  subst ha
  have hcs : cur.toList[n * 8 + 3]? = some (.string l[n].m.text) := by
    have : (cur.toList.take (l.length * 8))[n * 8 + 3]? = some (.string l[n].m.text) := by
      rw [htk, flat_get (enc := Plc.cells) (k := 8) (fun _ => rfl) l n 3 hn (by omega)]; rfl
    rwa [List.getElem?_take_of_lt (by omega)] at this
  have hcell : w.cell? ⟨g, n * 8 + 3, none⟩ = some (.string l[n].m.text) := by
    simp only [World.cell?, hb]
    simpa using hcs
  refine ⟨g, rfl, hg, (Array.getElem?_eq_some_iff.1 hb).1, hcell, frozen_of_row _ _ _ _ _ hb, fun t => ?_⟩
  refine ⟨by rw [flat_length (enc := Plc.cells) (k := 8) (fun _ => rfl)], .inr ⟨g, cap, cur.setIfInBounds (n * 8 + 3) (.string t), ?_, hg, heap_setCell_same w g _ cur _ _ hb, ?_, hcm, by simpa using hsz, ?_⟩⟩
  · rw [← hc, hk, with_length]
  · rw [with_length]; exact hnc
  · rw [Array.toList_setIfInBounds, List.take_set, with_length, htk, flat_put]

theorem wpList_plcs (W : World) {ops : Array Oper} {rest : List Oper} {o : Oper} {a : Act} {Q : Exit → Act → World → Prop} (hgd : o.guard = none) (s x : Operand)
    (ho : o.op = .call { callee := .builtin .append, args := #[s, x], argTypes := #[22, 22] }) (base : Nat) (v : Value) (l0 : List Plc) (hs : a.eval s = v) (hown : PlcOwn W base v l0)
    (A : Option Addr) (c : Nat) (l1 : List Plc) (hx : a.eval x = .slice A l1.length c) (hr : Row Plc.cells 8 W A l1) (hlen : (l0.length + l1.length) * 128 ≤ big) (hbase : base ≤ W.heap.size)
    (h : ∀ v' w', PlcOwn w' base v' (l0 ++ l1) → Below base W w' → W.grownBy w' v.ownBlock → wpList Try.prog ops Q rest (a.put o.dst v') w') : wpList Try.prog ops Q (o :: rest) a W := by
  obtain ⟨i0, hi, hz0, hz1, hz2⟩ := info_parts Try.infoPlc
  unfold big at hlen
  refine wpList_append_any (w := W) hgd s x 22 ho base 44 i0 zeroPlc 8 128 Try.underlying22 hi hz0 hz1 hz2 rfl (by decide) v l0.length (l0.flatMap Plc.cells) hs hown W.heap.size A l1.length c (l1.flatMap Plc.cells) hx hr
    (plc_one l1) (by simp only [maxLen]; omega) (by omega) hbase ?_
  intro v' w' h1 h2 _
  refine h v' w' ?_ ((Below.refl base W).grown h2 hbase (own_base hown)) h2
  unfold PlcOwn
  simpa using h1

set_option maxRecDepth 100000 in
set_option maxHeartbeats 8000000 in
theorem LinkAlone_any (k : Krn) (A : Option Addr) (l : List Plc) (c : Nat) (n : Int) (t : ByteArray) (w : World) (hk : k.ok w) (h : PlsOk w A l) (hfit : l.length * 128 ≤ big) (ht : t.size ≤ 140737488351232) :
    Calls Try.prog 8 #[k.v, .slice A l.length c, .int .i64 n, .string t] w fun e w' => e = .returned (.bool true) ∧ Below w.heap.size w w' := by
  obtain ⟨w0, hw0⟩ : ∃ w0, w0 = w.alloc (.cells #[.int .i64 k.major, .int .i64 k.minor, .slice k.eA k.ex.length k.eC] 47) := ⟨_, rfl⟩
  obtain ⟨g0, g1, g2, hz, hb0⟩ := box3 hw0
  have hz0 : w.heap.size < w0.heap.size := by omega
  have H0 := Lib.hid hb0
  have hw0' := hw0.symm
  have HP := Lib.hid h
  have HK := Lib.hid hk
  have HFIT := Lib.hid hfit
  have hl := h.len
  unfold big at hl
  clear hw0 hb0 hz h hk hfit
  by_cases hn0 : n < 0
  · go_enter Try.func8, Try.ntmps8
    go_wp2_with ((go_at_call 21; (with_reducible refine (linkBegun_any _).mono ?_); rintro e w1 ⟨rfl, hb1⟩))
    go_ret
    exact ⟨rfl, H0.out.trans (hb1.mono (by omega))⟩
  by_cases hn1 : (l.length : Int) ≤ n
  · have t0 : decide (n < 0) = false := decide_eq_false hn0
    clear hn0
    go_enter Try.func8, Try.ntmps8
    go_wp2_with ((go_at_call 21; (with_reducible refine (linkBegun_any _).mono ?_); rintro e w1 ⟨rfl, hb1⟩))
    go_ret
    exact ⟨rfl, H0.out.trans (hb1.mono (by omega))⟩
  obtain ⟨m, rfl⟩ : ∃ m : Nat, n = m := ⟨n.toNat, by omega⟩
  have hm : m < l.length := by omega
  have t0 : decide ((m : Int) < 0) = false := decide_eq_false hn0
  have t1 : decide (l.length ≤ m) = false := decide_eq_false (by omega)
  have hm' : (m : Int) < l.length := by omega
  clear hn0 hn1
  have KM := Lib.hid (fun W (hbW : Below w.heap.size w W) => plc_at HP.out.row hbW m hm)
  obtain ⟨ad, rfl, hab, _⟩ := plc_at HP.out.row (Below.refl _ _) m hm
  by_cases ht0 : t.size = 0
  · go_enter Try.func8, Try.ntmps8
    go_wp2_with ((go_at_call 21; (with_reducible refine (linkBegun_any _).mono ?_); rintro e w1 ⟨rfl, hb1⟩))
    go_ret
    exact ⟨rfl, H0.out.trans (hb1.mono (by omega))⟩
  have ht0' : ((t.size : Int) == 0) = false := beq_eq_false_iff_ne.2 (by omega)
  obtain ⟨y, hy⟩ : ∃ y, y = l[m]'hm := ⟨_, rfl⟩
  simp only [← hy] at KM
  have hys : y.m.text.size ≤ 140737488351232 := by rw [hy]; exact (HP.out.each _ (List.getElem_mem _)).text
  by_cases hts : t.size = y.m.text.size
  · have hts' : ((t.size : Int) != (y.m.text.size : Int)) = false := by rw [hts]; simp
    obtain ⟨L, hL⟩ : ∃ L, L = withText l m hm t := ⟨_, rfl⟩
    have hLl : L.length = l.length := by rw [hL]; exact with_length
    have HLAW := Lib.hid (show ∀ (i : Nat) (hi : i < l.length), i ≠ m → imageErr k L (l[i]'hi).m.name = imageErr k l (l[i]'hi).m.name ∧ imageT k L (l[i]'hi).m.name = imageT k l (l[i]'hi).m.name from fun i hi hne => hL ▸ lone_law (by rw [hts, hy]) hi hne)
    have HEACH := Lib.hid (show ∀ W, Below w.heap.size w W → ∀ x ∈ L, x.m.ok W from fun W hW x hx => by
      rw [hL] at hx
      unfold withText at hx
      rcases List.mem_or_eq_of_mem_set hx with hx | rfl
      · exact (HP.out.each x hx).below hW
      · have o := (HP.out.each _ (List.getElem_mem hm)).below hW
        exact ⟨o.ex, o.im, o.pa, o.name, ht⟩)
    have HTX := Lib.hid (fun (W : World) b v cc (hown : PlcOwn W b (.slice v l.length cc) l) => PlcOwn.text hown hm)
    simp only [← hy] at HTX
    have HLL := Lib.hid hLl
    have HLE := Lib.hid hL
    have HFIT2 := Lib.hid (show (([] : List Plc).length + l.length) * 128 ≤ big by simpa using HFIT.out)
    clear hL hLl hts ht0 hy
    go_enter Try.func8, Try.ntmps8
    go_wp2_with (first
      | (go_at_call 21; (with_reducible refine (linkBegun_any _).mono ?_); rintro e w1 ⟨rfl, hb1⟩
         have HB1 := Lib.hid (H0.out.trans (hb1.mono (by omega)))
         have k0 := (hb1.cell (p := ⟨w.heap.size, 0, none⟩) hz0).trans g0
         have k1 := (hb1.cell (p := ⟨w.heap.size, 1, none⟩) hz0).trans g1
         have k2 := (hb1.cell (p := ⟨w.heap.size, 2, none⟩) hz0).trans g2
         have HKC := Lib.hid (And.intro k0 (And.intro k1 k2))
         have hz1 : w.heap.size < w1.heap.size := (by have := hb1.size; omega)
         obtain ⟨_, ea, _, m0, m1, m2, m3, m4, m5, m6, m7⟩ := KM.out _ HB1.out
         obtain rfl := Option.some.inj ea
         clear hb1 k0 k1 k2)
      | (at_builtin; refine wpList_plcs _ rfl _ _ rfl w1.heap.size (.slice (some ⟨w1.heap.size, 0, none⟩) 0 0) [] rfl (PlcOwn.empty w1 w1.heap.size (Nat.le_refl _)) (some ad) c l rfl (HP.out.row.below (HB1.out.trans (((Below.refl w1.heap.size w1).alloc (Nat.le_refl _) _).mono (by omega)))) HFIT2.out (by simp) ?_
         intro v2 w2 hown2 hb2 _
         have HB2 := Lib.hid (show Below w1.heap.size w1 w2 from ((Below.refl w1.heap.size w1).alloc (Nat.le_refl _) _).trans hb2)
         obtain ⟨A5, c5, rfl, _⟩ := PlcOwn.row (show PlcOwn w2 w1.heap.size v2 l from hown2)
         obtain ⟨g, rfl, hg, hgw, x0, x1, x2⟩ := HTX.out _ _ _ _ hown2
         have X2 := Lib.hid (x2 t)
         clear hown2 hb2 x2))
    obtain ⟨wz, hwz⟩ : ∃ wz, wz = w2.setCell ⟨g, m * 8 + 3, none⟩ (.string t) := ⟨_, rfl⟩
    rw [← hwz]
    have HX2 := Lib.hid (show PlcOwn wz w1.heap.size (.slice (some ⟨g, 0, none⟩) l.length c5) L from by rw [hwz, HLE.out]; exact X2.out)
    have HZ1 := Lib.hid (show Below w1.heap.size w1 wz from hwz ▸ HB2.out.setCell (p := ⟨g, m * 8 + 3, none⟩) hg _)
    have HZ := Lib.hid (HB1.out.trans (HZ1.out.mono HB1.out.size))
    have k0 := (HZ1.out.cell (p := ⟨w.heap.size, 0, none⟩) hz1).trans HKC.out.1
    have k1 := (HZ1.out.cell (p := ⟨w.heap.size, 1, none⟩) hz1).trans HKC.out.2.1
    have k2 := (HZ1.out.cell (p := ⟨w.heap.size, 2, none⟩) hz1).trans HKC.out.2.2
    have HKZ := Lib.hid (And.intro k0 (And.intro k1 k2))
    have hzz : w.heap.size < wz.heap.size := by have := HZ1.out.size; omega
    have HPL := Lib.hid (show PlsOk wz (some ⟨g, 0, none⟩) L from by
      obtain ⟨A6, c6, e6, r6⟩ := PlcOwn.row HX2.out
      injection e6 with e7 _ _
      subst e7
      exact ⟨r6, by rw [HLL.out]; exact HP.out.len, HEACH.out _ HZ.out⟩)
    have cA := Lib.hid (fun nm W (hb : Below w.heap.size w W) => Image_any k (some ad) c l nm W (HK.out.below hb) (HP.out.below hb))
    have cB := Lib.hid (fun nm W (hb : Below wz.heap.size wz W) => Image_any k (some ⟨g, 0, none⟩) c5 L nm W (HK.out.below (HZ.out.trans (hb.mono HZ.out.size))) (HPL.out.below hb))
    rw [HLL.out] at cB
    clear X2 HX2 hwz x0 x1 m0 m1 m2 m3 m4 m5 m6 m7 hg hgw k0 k1 k2
    go_loopw [10] (fun i wr => ∃ j : Nat, j ≤ l.length ∧ i = .int .i64 j ∧ Below wz.heap.size wz wr) (fun i _ => l.length - (intOf i).toNat)
    case atStart => exact ⟨0, by omega, rfl, Below.refl _ _⟩
    case round =>
      obtain ⟨j, hj, rfl, hb⟩ := hrel
      have HB := Lib.hid hb
      by_cases hlt : j < l.length
      · have hlt' : (j : Int) < l.length := by omega
        by_cases hjm : j = m
        · subst hjm
          clear hb
          go_wp2_with fail
          go_roundw
          case rel => exact ⟨j + 1, by omega, by go_num, HB.out⟩
          case measure => (simp [intOf]; try omega)
        · have hjm' : ((j : Int) == (m : Int)) = false := beq_eq_false_iff_ne.2 (by omega)
          have KJ := Lib.hid (fun W (hbW : Below w.heap.size w W) => plc_at HP.out.row hbW j hlt)
          obtain ⟨s1, s2⟩ := HLAW.out j hlt hjm
          have cA1 := Lib.hid (cA.out (l[j]'hlt).m.name)
          have cB1 := Lib.hid (cB.out (l[j]'hlt).m.name)
          rw [s1, s2] at cB1
          obtain ⟨T, hT⟩ : ∃ T, T = imageT k l (l[j]'hlt).m.name := ⟨_, rfl⟩
          obtain ⟨E, hE⟩ : ∃ E, E = imageErr k l (l[j]'hlt).m.name := ⟨_, rfl⟩
          rw [← hT, ← hE] at cA1 cB1
          have hbw := HZ.out.trans (hb.mono HZ.out.size)
          obtain ⟨_, ea, _, m0, _⟩ := KJ.out _ hbw
          obtain rfl := Option.some.inj ea
          obtain ⟨s, hs⟩ : ∃ s, s = (l[j]'hlt).m.name := ⟨_, rfl⟩
          rw [← hs] at cA1 cB1 m0
          have k0 := (hb.cell (p := ⟨w.heap.size, 0, none⟩) hzz).trans HKZ.out.1
          have k1 := (hb.cell (p := ⟨w.heap.size, 1, none⟩) hzz).trans HKZ.out.2.1
          have k2 := (hb.cell (p := ⟨w.heap.size, 2, none⟩) hzz).trans HKZ.out.2.2
          have hzr : w.heap.size < wr.heap.size := by have := hb.size; omega
          have habr : (ad.add (j * 8)).block < wr.heap.size := by rw [block_of_add]; omega
          have HBW := Lib.hid hbw
          clear hb hbw hT hE hs s1 s2 hjm KJ
          have HKR := Lib.hid (And.intro k0 (And.intro k1 (And.intro k2 m0)))
          have HC0 := Lib.hid (show Below wr.heap.size wr wr ∧ wr.cell? ⟨w.heap.size, 0, none⟩ = some (.int .i64 k.major) ∧ wr.cell? ⟨w.heap.size, 1, none⟩ = some (.int .i64 k.minor) ∧ wr.cell? ⟨w.heap.size, 2, none⟩ = some (.slice k.eA k.ex.length k.eC) ∧ wr.cell? (ad.add (j * 8)) = some (.string s) from ⟨Below.refl _ _, by assumption, by assumption, by assumption, by assumption⟩)
          have HCD := Lib.hid (show ∀ W' : World, (Below wr.heap.size wr W' ∧ W'.cell? ⟨w.heap.size, 0, none⟩ = some (.int .i64 k.major) ∧ W'.cell? ⟨w.heap.size, 1, none⟩ = some (.int .i64 k.minor) ∧ W'.cell? ⟨w.heap.size, 2, none⟩ = some (.slice k.eA k.ex.length k.eC) ∧ W'.cell? (ad.add (j * 8)) = some (.string s)) → (Below wr.heap.size wr W'.drew ∧ W'.drew.cell? ⟨w.heap.size, 0, none⟩ = some (.int .i64 k.major) ∧ W'.drew.cell? ⟨w.heap.size, 1, none⟩ = some (.int .i64 k.minor) ∧ W'.drew.cell? ⟨w.heap.size, 2, none⟩ = some (.slice k.eA k.ex.length k.eC) ∧ W'.drew.cell? (ad.add (j * 8)) = some (.string s)) from fun W' ⟨b, a0, a1, a2, a3⟩ => ⟨b.drew, a0, a1, a2, a3⟩)
          have HCS := Lib.hid (show ∀ W' W2 : World, (Below wr.heap.size wr W' ∧ W'.cell? ⟨w.heap.size, 0, none⟩ = some (.int .i64 k.major) ∧ W'.cell? ⟨w.heap.size, 1, none⟩ = some (.int .i64 k.minor) ∧ W'.cell? ⟨w.heap.size, 2, none⟩ = some (.slice k.eA k.ex.length k.eC) ∧ W'.cell? (ad.add (j * 8)) = some (.string s)) → Below W'.heap.size W' W2 → (Below wr.heap.size wr W2 ∧ W2.cell? ⟨w.heap.size, 0, none⟩ = some (.int .i64 k.major) ∧ W2.cell? ⟨w.heap.size, 1, none⟩ = some (.int .i64 k.minor) ∧ W2.cell? ⟨w.heap.size, 2, none⟩ = some (.slice k.eA k.ex.length k.eC) ∧ W2.cell? (ad.add (j * 8)) = some (.string s)) from fun W' W2 ⟨b, a0, a1, a2, a3⟩ hb => have s := b.size; ⟨b.trans (hb.mono s), (hb.cell (by first | omega | (simp; omega) | (simp only [block_of_add]; omega))).trans a0, (hb.cell (by first | omega | (simp; omega) | (simp only [block_of_add]; omega))).trans a1, (hb.cell (by first | omega | (simp; omega) | (simp only [block_of_add]; omega))).trans a2, (hb.cell (by first | omega | (simp; omega) | (simp only [block_of_add]; omega))).trans a3⟩)
          have HCA := Lib.hid (show ∀ (W' : World) (o : Obj), (Below wr.heap.size wr W' ∧ W'.cell? ⟨w.heap.size, 0, none⟩ = some (.int .i64 k.major) ∧ W'.cell? ⟨w.heap.size, 1, none⟩ = some (.int .i64 k.minor) ∧ W'.cell? ⟨w.heap.size, 2, none⟩ = some (.slice k.eA k.ex.length k.eC) ∧ W'.cell? (ad.add (j * 8)) = some (.string s)) → (Below wr.heap.size wr (W'.alloc o) ∧ (W'.alloc o).cell? ⟨w.heap.size, 0, none⟩ = some (.int .i64 k.major) ∧ (W'.alloc o).cell? ⟨w.heap.size, 1, none⟩ = some (.int .i64 k.minor) ∧ (W'.alloc o).cell? ⟨w.heap.size, 2, none⟩ = some (.slice k.eA k.ex.length k.eC) ∧ (W'.alloc o).cell? (ad.add (j * 8)) = some (.string s)) from fun W' o hc => HCS.out W' (W'.alloc o) hc ((Below.refl _ _).alloc (Nat.le_refl _) o))
          have HCX := Lib.hid (show ∀ (W' : World) (bX oX : Nat) (vX : Value), wr.heap.size ≤ bX → (Below wr.heap.size wr W' ∧ W'.cell? ⟨w.heap.size, 0, none⟩ = some (.int .i64 k.major) ∧ W'.cell? ⟨w.heap.size, 1, none⟩ = some (.int .i64 k.minor) ∧ W'.cell? ⟨w.heap.size, 2, none⟩ = some (.slice k.eA k.ex.length k.eC) ∧ W'.cell? (ad.add (j * 8)) = some (.string s)) → (Below wr.heap.size wr (W'.setCell ⟨bX, oX, none⟩ vX) ∧ (W'.setCell ⟨bX, oX, none⟩ vX).cell? ⟨w.heap.size, 0, none⟩ = some (.int .i64 k.major) ∧ (W'.setCell ⟨bX, oX, none⟩ vX).cell? ⟨w.heap.size, 1, none⟩ = some (.int .i64 k.minor) ∧ (W'.setCell ⟨bX, oX, none⟩ vX).cell? ⟨w.heap.size, 2, none⟩ = some (.slice k.eA k.ex.length k.eC) ∧ (W'.setCell ⟨bX, oX, none⟩ vX).cell? (ad.add (j * 8)) = some (.string s)) from fun W' bX oX vX hbX ⟨b, a0, a1, a2, a3⟩ => ⟨b.setCell (p := ⟨bX, oX, none⟩) hbX vX, (((Below.refl _ _).setCell (p := ⟨bX, oX, none⟩) hbX vX).cell (by first | omega | (simp; omega) | (simp only [block_of_add]; omega))).trans a0, (((Below.refl _ _).setCell (p := ⟨bX, oX, none⟩) hbX vX).cell (by first | omega | (simp; omega) | (simp only [block_of_add]; omega))).trans a1, (((Below.refl _ _).setCell (p := ⟨bX, oX, none⟩) hbX vX).cell (by first | omega | (simp; omega) | (simp only [block_of_add]; omega))).trans a2, (((Below.refl _ _).setCell (p := ⟨bX, oX, none⟩) hbX vX).cell (by first | omega | (simp; omega) | (simp only [block_of_add]; omega))).trans a3⟩)
          have HCL := Lib.hid (show ∀ W' : World, (Below wr.heap.size wr W' ∧ W'.cell? ⟨w.heap.size, 0, none⟩ = some (.int .i64 k.major) ∧ W'.cell? ⟨w.heap.size, 1, none⟩ = some (.int .i64 k.minor) ∧ W'.cell? ⟨w.heap.size, 2, none⟩ = some (.slice k.eA k.ex.length k.eC) ∧ W'.cell? (ad.add (j * 8)) = some (.string s)) → Below wr.heap.size wr W' from fun W' hc => hc.1)
          clear k0 k1 k2 m0
          go_wp2_with fail
          go_region_held3 (fun W' => Below wr.heap.size wr W' ∧ W'.cell? ⟨w.heap.size, 0, none⟩ = some (.int .i64 k.major) ∧ W'.cell? ⟨w.heap.size, 1, none⟩ = some (.int .i64 k.minor) ∧ W'.cell? ⟨w.heap.size, 2, none⟩ = some (.slice k.eA k.ex.length k.eC) ∧ W'.cell? (ad.add (j * 8)) = some (.string s)) (first | exact HC0.out | exact HCD.out _ HC0.out | exact HCS.out _ _ (by assumption) (by assumption) | exact HCS.out _ _ HC0.out (by assumption) | exact HCS.out _ _ (HCD.out _ HC0.out) (by assumption) | exact HCS.out _ _ (HCD.out _ (by assumption)) (by assumption) | exact HCD.out _ (by assumption) | exact HCA.out _ _ (by assumption) | exact HCA.out _ _ HC0.out | exact HCA.out _ _ (HCD.out _ HC0.out) | exact HCD.out _ (HCA.out _ _ (by assumption)) | exact HCA.out _ _ (HCS.out _ _ HC0.out (by assumption)) | exact HCA.out _ _ (HCS.out _ _ (HCD.out _ HC0.out) (by assumption)) | exact HCX.out _ _ _ _ (Nat.le_refl _) (by assumption) | exact HCX.out _ _ _ _ (Nat.le_refl _) (HCS.out _ _ (HCA.out _ _ HC0.out) (by assumption)) | exact HCX.out _ _ _ _ (Nat.le_refl _) (HCS.out _ _ (HCD.out _ (HCA.out _ _ HC0.out)) (by assumption)) | assumption) (first | (go_at_call 22; (with_reducible refine (cA1.out _ (HBW.out.trans ((HCL.out _ (by assumption)).mono HBW.out.size))).mono ?_); rintro e w5 ⟨rfl, hb5⟩))
          have hB5 := HCL.out _ (by assumption)
          have HB5 := Lib.hid hB5
          have hz5 : w.heap.size < w5.heap.size := by have := hB5.size; omega
          have hab5 : (ad.add (j * 8)).block < w5.heap.size := by have := hB5.size; omega
          have k0 := (hB5.cell (p := ⟨w.heap.size, 0, none⟩) hzr).trans HKR.out.1
          have k1 := (hB5.cell (p := ⟨w.heap.size, 1, none⟩) hzr).trans HKR.out.2.1
          have k2 := (hB5.cell (p := ⟨w.heap.size, 2, none⟩) hzr).trans HKR.out.2.2.1
          have m0 := (hB5.cell (p := ad.add (j * 8)) habr).trans HKR.out.2.2.2
          have HBZ5 := Lib.hid (HB.out.trans (hB5.mono HB.out.size))
          clear hB5
          have HG0 := Lib.hid (show Below w5.heap.size w5 w5 ∧ w5.cell? ⟨w.heap.size, 0, none⟩ = some (.int .i64 k.major) ∧ w5.cell? ⟨w.heap.size, 1, none⟩ = some (.int .i64 k.minor) ∧ w5.cell? ⟨w.heap.size, 2, none⟩ = some (.slice k.eA k.ex.length k.eC) ∧ w5.cell? (ad.add (j * 8)) = some (.string s) from ⟨Below.refl _ _, by assumption, by assumption, by assumption, by assumption⟩)
          have HGD := Lib.hid (show ∀ W' : World, (Below w5.heap.size w5 W' ∧ W'.cell? ⟨w.heap.size, 0, none⟩ = some (.int .i64 k.major) ∧ W'.cell? ⟨w.heap.size, 1, none⟩ = some (.int .i64 k.minor) ∧ W'.cell? ⟨w.heap.size, 2, none⟩ = some (.slice k.eA k.ex.length k.eC) ∧ W'.cell? (ad.add (j * 8)) = some (.string s)) → (Below w5.heap.size w5 W'.drew ∧ W'.drew.cell? ⟨w.heap.size, 0, none⟩ = some (.int .i64 k.major) ∧ W'.drew.cell? ⟨w.heap.size, 1, none⟩ = some (.int .i64 k.minor) ∧ W'.drew.cell? ⟨w.heap.size, 2, none⟩ = some (.slice k.eA k.ex.length k.eC) ∧ W'.drew.cell? (ad.add (j * 8)) = some (.string s)) from fun W' ⟨b, a0, a1, a2, a3⟩ => ⟨b.drew, a0, a1, a2, a3⟩)
          have HGS := Lib.hid (show ∀ W' W2 : World, (Below w5.heap.size w5 W' ∧ W'.cell? ⟨w.heap.size, 0, none⟩ = some (.int .i64 k.major) ∧ W'.cell? ⟨w.heap.size, 1, none⟩ = some (.int .i64 k.minor) ∧ W'.cell? ⟨w.heap.size, 2, none⟩ = some (.slice k.eA k.ex.length k.eC) ∧ W'.cell? (ad.add (j * 8)) = some (.string s)) → Below W'.heap.size W' W2 → (Below w5.heap.size w5 W2 ∧ W2.cell? ⟨w.heap.size, 0, none⟩ = some (.int .i64 k.major) ∧ W2.cell? ⟨w.heap.size, 1, none⟩ = some (.int .i64 k.minor) ∧ W2.cell? ⟨w.heap.size, 2, none⟩ = some (.slice k.eA k.ex.length k.eC) ∧ W2.cell? (ad.add (j * 8)) = some (.string s)) from fun W' W2 ⟨b, a0, a1, a2, a3⟩ hb => have s := b.size; ⟨b.trans (hb.mono s), (hb.cell (by first | omega | (simp; omega) | (simp only [block_of_add]; omega))).trans a0, (hb.cell (by first | omega | (simp; omega) | (simp only [block_of_add]; omega))).trans a1, (hb.cell (by first | omega | (simp; omega) | (simp only [block_of_add]; omega))).trans a2, (hb.cell (by first | omega | (simp; omega) | (simp only [block_of_add]; omega))).trans a3⟩)
          have HGA := Lib.hid (show ∀ (W' : World) (o : Obj), (Below w5.heap.size w5 W' ∧ W'.cell? ⟨w.heap.size, 0, none⟩ = some (.int .i64 k.major) ∧ W'.cell? ⟨w.heap.size, 1, none⟩ = some (.int .i64 k.minor) ∧ W'.cell? ⟨w.heap.size, 2, none⟩ = some (.slice k.eA k.ex.length k.eC) ∧ W'.cell? (ad.add (j * 8)) = some (.string s)) → (Below w5.heap.size w5 (W'.alloc o) ∧ (W'.alloc o).cell? ⟨w.heap.size, 0, none⟩ = some (.int .i64 k.major) ∧ (W'.alloc o).cell? ⟨w.heap.size, 1, none⟩ = some (.int .i64 k.minor) ∧ (W'.alloc o).cell? ⟨w.heap.size, 2, none⟩ = some (.slice k.eA k.ex.length k.eC) ∧ (W'.alloc o).cell? (ad.add (j * 8)) = some (.string s)) from fun W' o hc => HGS.out W' (W'.alloc o) hc ((Below.refl _ _).alloc (Nat.le_refl _) o))
          have HGX := Lib.hid (show ∀ (W' : World) (bX oX : Nat) (vX : Value), w5.heap.size ≤ bX → (Below w5.heap.size w5 W' ∧ W'.cell? ⟨w.heap.size, 0, none⟩ = some (.int .i64 k.major) ∧ W'.cell? ⟨w.heap.size, 1, none⟩ = some (.int .i64 k.minor) ∧ W'.cell? ⟨w.heap.size, 2, none⟩ = some (.slice k.eA k.ex.length k.eC) ∧ W'.cell? (ad.add (j * 8)) = some (.string s)) → (Below w5.heap.size w5 (W'.setCell ⟨bX, oX, none⟩ vX) ∧ (W'.setCell ⟨bX, oX, none⟩ vX).cell? ⟨w.heap.size, 0, none⟩ = some (.int .i64 k.major) ∧ (W'.setCell ⟨bX, oX, none⟩ vX).cell? ⟨w.heap.size, 1, none⟩ = some (.int .i64 k.minor) ∧ (W'.setCell ⟨bX, oX, none⟩ vX).cell? ⟨w.heap.size, 2, none⟩ = some (.slice k.eA k.ex.length k.eC) ∧ (W'.setCell ⟨bX, oX, none⟩ vX).cell? (ad.add (j * 8)) = some (.string s)) from fun W' bX oX vX hbX ⟨b, a0, a1, a2, a3⟩ => ⟨b.setCell (p := ⟨bX, oX, none⟩) hbX vX, (((Below.refl _ _).setCell (p := ⟨bX, oX, none⟩) hbX vX).cell (by first | omega | (simp; omega) | (simp only [block_of_add]; omega))).trans a0, (((Below.refl _ _).setCell (p := ⟨bX, oX, none⟩) hbX vX).cell (by first | omega | (simp; omega) | (simp only [block_of_add]; omega))).trans a1, (((Below.refl _ _).setCell (p := ⟨bX, oX, none⟩) hbX vX).cell (by first | omega | (simp; omega) | (simp only [block_of_add]; omega))).trans a2, (((Below.refl _ _).setCell (p := ⟨bX, oX, none⟩) hbX vX).cell (by first | omega | (simp; omega) | (simp only [block_of_add]; omega))).trans a3⟩)
          have HGL := Lib.hid (show ∀ W' : World, (Below w5.heap.size w5 W' ∧ W'.cell? ⟨w.heap.size, 0, none⟩ = some (.int .i64 k.major) ∧ W'.cell? ⟨w.heap.size, 1, none⟩ = some (.int .i64 k.minor) ∧ W'.cell? ⟨w.heap.size, 2, none⟩ = some (.slice k.eA k.ex.length k.eC) ∧ W'.cell? (ad.add (j * 8)) = some (.string s)) → Below w5.heap.size w5 W' from fun W' hc => hc.1)
          clear k0 k1 k2 m0
          go_wp2_with fail
          go_region_held3 (fun W' => Below w5.heap.size w5 W' ∧ W'.cell? ⟨w.heap.size, 0, none⟩ = some (.int .i64 k.major) ∧ W'.cell? ⟨w.heap.size, 1, none⟩ = some (.int .i64 k.minor) ∧ W'.cell? ⟨w.heap.size, 2, none⟩ = some (.slice k.eA k.ex.length k.eC) ∧ W'.cell? (ad.add (j * 8)) = some (.string s)) (first | exact HG0.out | exact HGD.out _ HG0.out | exact HGS.out _ _ (by assumption) (by assumption) | exact HGS.out _ _ HG0.out (by assumption) | exact HGS.out _ _ (HGD.out _ HG0.out) (by assumption) | exact HGS.out _ _ (HGD.out _ (by assumption)) (by assumption) | exact HGD.out _ (by assumption) | exact HGA.out _ _ (by assumption) | exact HGA.out _ _ HG0.out | exact HGA.out _ _ (HGD.out _ HG0.out) | exact HGD.out _ (HGA.out _ _ (by assumption)) | exact HGA.out _ _ (HGS.out _ _ HG0.out (by assumption)) | exact HGA.out _ _ (HGS.out _ _ (HGD.out _ HG0.out) (by assumption)) | exact HGX.out _ _ _ _ (Nat.le_refl _) (by assumption) | exact HGX.out _ _ _ _ (Nat.le_refl _) (HGS.out _ _ (HGA.out _ _ HG0.out) (by assumption)) | exact HGX.out _ _ _ _ (Nat.le_refl _) (HGS.out _ _ (HGD.out _ (HGA.out _ _ HG0.out)) (by assumption)) | assumption) (first | (go_at_call 22; (with_reducible refine (cB1.out _ (HBZ5.out.trans ((HGL.out _ (by assumption)).mono HBZ5.out.size))).mono ?_); rintro e w6 ⟨rfl, hb6⟩))
          have hB6 := HGL.out _ (by assumption)
          have HB6 := Lib.hid (HBZ5.out.trans (hB6.mono HBZ5.out.size))
          clear hB6
          go_wp2_with fail
          go_roundw
          case rel => exact ⟨j + 1, by omega, by go_num, HB6.out⟩
          case measure => (simp [intOf]; try omega)
      · clear hb
        go_wp2_with fail
        go_ret
        exact ⟨rfl, HZ.out.trans (HB.out.mono HZ.out.size)⟩
  · have hts' : ((t.size : Int) != (y.m.text.size : Int)) = true := by rw [bne_iff_ne]; omega
    clear hy hts ht0
    go_enter Try.func8, Try.ntmps8
    go_wp2_with ((go_at_call 21; (with_reducible refine (linkBegun_any _).mono ?_); rintro e w1 ⟨rfl, hb1⟩; obtain ⟨_, ea, _, m0, m1, m2, m3, m4, m5, m6, m7⟩ := KM.out _ (H0.out.trans (hb1.mono (by omega))); obtain rfl := Option.some.inj ea))
    go_ret
    exact ⟨rfl, H0.out.trans (hb1.mono (by omega))⟩

set_option maxRecDepth 100000 in
theorem linkAlone_lifted (os : Os) (started : os.Started) (H : Type) (enc : TypeId × Value → H) :
    ReturnsInHanded {} Try.checked os 8 .any (Rows.linkAloneSpec.pre6 enc Try.prog Try.f8 Rows.linkAloneRow.domain false) (Rows.linkAloneSpec.post enc Try.prog Try.f8 false true false false) := by
  refine returnsInHanded_of_change_sized (C := Try.checked) Try.own started (by kernel_rfl) Try.func8
    (ChangeSpec.witness6 (enc := enc) (C := Try.checked) false ⟨#[], #[.agg #[.int .i64 0, .int .i64 0, .slice none 0 0], .slice none 0 0, .int .i64 0, .string ⟨#[]⟩], []⟩ 8 (by kernel_rfl) (by kernel_rfl) (by kernel_rfl) (by kernel_rfl)) ?_
  intro W base args ds gs before hval0 hW hcnd hsz0 _
  have hval : ∀ (j : Nat) t v, Try.f8.params[j]? = some t → args[j]? = some v → Value.okWide Try.prog W .any base t v := hval0
  have hsz : (DataW.weightsEach Try.prog (Try.f8.params.toList ++ Rows.linkAloneSpec.plain.varTypes Try.prog) (ds ++ gs)).all (· ≤ reachBytes) = true := hsz0
  have hW' := hW
  obtain ⟨p, q, hA0, hV, rfl, hfz, hnd⟩ := hW
  have hA : DataW.TrodAll enc Try.prog W 0 (fun _ => true) true Try.f8.params.toList args.toList ds p := hA0
  rw [Try.params8] at hA hval hsz
  obtain ⟨v0, vs0, d0, ds0, p0, q0, hargs, rfl, rfl, h0, r0⟩ := trodAll_cons hA
  obtain ⟨v1, vs1, d1, ds1, p1, q1, rfl, rfl, rfl, h1, r1⟩ := trodAll_cons r0
  obtain ⟨v2, vs2, d2, ds2, p2, q2, rfl, rfl, rfl, h2, r2⟩ := trodAll_cons r1
  obtain ⟨v3, vs3, d3, ds3, p3, q3, rfl, rfl, rfl, h3, r3⟩ := trodAll_cons r2
  obtain ⟨rfl, rfl, rfl⟩ := trodAll_nil r3
  obtain rfl : args = #[v0, v1, v2, v3] := by cases args; simp_all
  obtain ⟨rfl, rfl⟩ := trodVars_none hV
  have ft0 := fits_each hsz (j := 0) rfl rfl
  obtain ⟨k, rfl, ok0⟩ := open_Kernel (hval 0 47 v0 rfl rfl) h0 ft0
  have ft1 := fits_each hsz (j := 1) rfl rfl
  obtain ⟨lA, l, lc, rfl, ok1⟩ := open_Placeds (hval 1 22 v1 rfl rfl) h1 ft1
  obtain ⟨n, rfl, rfl, rfl, w2⟩ := open_int Try.underlying3 (hval 2 3 v2 rfl rfl) h2
  obtain ⟨text, rfl, rfl, rfl, w3⟩ := open_string Try.underlying9 (hval 3 9 v3 rfl rfl) h3
  have z3 : text.size ≤ 140737488351232 := by have := sized_string hsz (j := 3) (t := 9) rfl rfl; simpa [reachBytes] using this
  refine (LinkAlone_any k lA l lc n text W ok0 ok1 (placeds_fit h1 ft1) z3).mono fun e W' ⟨he, hb⟩ => ?_
  subst he
  exact ⟨_, rfl, law_post Try.laidOut hW' rfl (by decide +kernel) rfl Try.underlying4 rfl rfl rfl hb⟩

theorem linkAlone_holds : Rows.LinkAloneSaid :=
  OpenClaim.holds_of_wide 8 Try.f8 rfl rfl rfl rfl rfl rfl rfl ⟨rfl, rfl, rfl, rfl, rfl⟩ rfl rfl rfl rfl rfl (by kernel_rfl) Try.func8 (by kernel_rfl)
    (of_decide_eq_true (by kernel_rfl)) (by unfold Func.isWrapper; first | (rw [if_pos (by decide +kernel)]; kernel_rfl) | (rw [if_neg (by decide +kernel)]; exact ⟨rfl, rfl⟩))
    (fun os started H enc _ => linkAlone_lifted os started H enc)
#print axioms linkAlone_holds


end Go.Proofs.Ytgkpbndeljnjcaa
