import Derived.Test.YtogckcjcebckgaaGreatG12
import Derived.Test.YtogckcjcebckgaaGreatG11
import Derived.Test.YtogckcjcebckgaaGreatG04
import Derived.Test.YtogckcjcebckgaaGreatG10
import Derived.Test.YtogckcjcebckgaaGreatG08
section
/- Packing (chapter J): the packer's step. -/
namespace Go.Proofs.YtogckcjcebckgaaGreat
open Go.RowKit Go.Lib

theorem manyOf_nonneg (m : Mod) : 0 ≤ manyOf m := by unfold manyOf; omega
theorem set_first : ∀ (l : List Plc) (j : Nat) (h : j < l.length) (a : Int), (l.flatMap Plc.cells).set (j * 8 + 7) (.int .i64 a) = (l.set j ⟨l[j].m, a⟩).flatMap Plc.cells
  | x :: l, 0, _, a => by
    show (x.cells ++ l.flatMap Plc.cells).set 7 (.int .i64 a) = (⟨x.m, a⟩ : Plc).cells ++ l.flatMap Plc.cells
    rw [List.set_append_left _ _ (by show 7 < (x.cells).length; exact Nat.lt_of_lt_of_eq (by decide : 7 < 8) rfl)]
    rfl
  | x :: l, j + 1, h, a => by
    show (x.cells ++ l.flatMap Plc.cells).set ((j + 1) * 8 + 7) (.int .i64 a) = x.cells ++ (l.set j ⟨(x :: l)[j + 1].m, a⟩).flatMap Plc.cells
    have hl : x.cells.length = 8 := rfl
    rw [List.set_append_right _ _ (by rw [hl]; omega), hl, show (j + 1) * 8 + 7 - 8 = j * 8 + 7 by omega, set_first l j (by simpa using h) a]
    rfl
theorem PlcOwn.at_ {w : World} {base : Nat} {A : Option Addr} {c j : Nat} {l : List Plc} (h : PlcOwn w base (.slice A l.length c) l) (hj : j < l.length) :
    ∃ g, A = some ⟨g, 0, none⟩ ∧ base ≤ g ∧ g < w.heap.size ∧ (∃ cs, w.heap[g]? = some (.cells cs 77 (0, 0))) ∧ (∃ u, w.cell? ⟨g, j * 8 + 7, none⟩ = some u) ∧ w.frozen? ⟨g, j * 8 + 7, none⟩ = false ∧
      ∀ a, PlcOwn (w.setCell ⟨g, j * 8 + 7, none⟩ (.int .i64 a)) base (.slice A l.length c) (l.set j ⟨l[j].m, a⟩) := by
  obtain ⟨h1, h2⟩ := h
  rcases h2 with ⟨_, h0⟩ | ⟨g, cap, cur, hv, hg, hb, hnc, hcm, hsz, htk⟩
  · omega
  injection hv with ha hk hc
  subst ha
  have hlt : j * 8 + 7 < l.length * 8 := by omega
  have hflen : (l.flatMap Plc.cells).length = l.length * 8 := flat_length (enc := Plc.cells) (k := 8) (fun _ => rfl) l
  have hcl : j * 8 + 7 < cur.size := by
    have := congrArg List.length htk
    rw [List.length_take, hflen] at this
    simp at this
    omega
  refine ⟨g, rfl, hg, (Array.getElem?_eq_some_iff.1 hb).1, ⟨cur, hb⟩, ⟨cur[j * 8 + 7], by rw [heap_cell hb, Array.getElem?_eq_getElem hcl]⟩, heap_free hb _, fun a => ?_⟩
  refine ⟨by rw [List.length_set, flat_length (enc := Plc.cells) (k := 8) (fun _ => rfl), List.length_set], .inr ⟨g, cap, cur.setIfInBounds (j * 8 + 7) (.int .i64 a), ?_, hg, heap_setCell_same w g _ cur _ _ hb, ?_, hcm, by simpa using hsz, ?_⟩⟩
  · rw [← hc, List.length_set]
  · simpa using hnc
  · rw [Array.toList_setIfInBounds, List.take_set, List.length_set, htk, set_first l j hj a]

theorem step_cons (a : Int) (x : Plc) (l : List Plc) : stepL a (x :: l) = if a < x.first then some (⟨x.m, a⟩ :: l) else (stepL (endOf x) l).map (x :: ·) := rfl
/-- a step, from place j on -/
theorem step_at {l : List Plc} {j : Nat} {a : Int} (h : j < l.length) (hs : stepL 0 l = (stepL a (l.drop j)).map (l.take j ++ ·)) :
    (a < l[j].first → stepL 0 l = some (l.set j ⟨l[j].m, a⟩)) ∧ (¬ a < l[j].first → stepL 0 l = (stepL (endOf l[j]) (l.drop (j + 1))).map (l.take (j + 1) ++ ·)) := by
  rw [List.drop_eq_getElem_cons h, step_cons] at hs
  constructor
  · intro hlt
    have hs' := hs
    rw [if_pos hlt] at hs'
    rw [hs', Option.map_some, List.set_eq_take_append_cons_drop, if_pos h]
  · intro hlt
    have hs' := hs
    rw [if_neg hlt] at hs'
    rw [hs', Option.map_map]
    congr 1
    funext r
    show l.take j ++ (l[j] :: r) = l.take (j + 1) ++ r
    rw [List.take_succ_eq_append_getElem h, List.append_assoc]; rfl

set_option maxHeartbeats 8000000 in
set_option maxRecDepth 100000 in
theorem packer_any (bp base : Nat) (x0 x1 : Int) (vE : Value) (A : Option Addr) (c : Nat) (l : List Plc) (w : World) (hb : w.heap[bp]? = some (.cells #[.int .i64 x0, .int .i64 x1, vE, .slice A l.length c] 172 (0, 0)))
    (ho : PlcOwn w base (.slice A l.length c) l) (hbase : base ≤ w.heap.size) (hm : ∀ x ∈ l, x.m.text.size ≤ 256) (hr : Row16 0 l) (h8 : l.length ≤ 8) :
    Calls Tryz.prog 112 #[.pointer (some ⟨bp, 0, none⟩)] w fun e w' => e = .returned (.bool (stepL 0 l).isSome) ∧ PlcOwn w' base (.slice A l.length c) ((stepL 0 l).getD l) ∧ Kp [77] w w' ∧ Below base w w' := by
  have HO := Lib.hid ho
  have HM := Lib.hid hm
  have p3 := heap_cell hb 3
  simp only [List.getElem?_toArray, List.getElem?_cons_zero, List.getElem?_cons_succ] at p3
  have HP := Lib.hid hb
  have hbl := (Array.getElem?_eq_some_iff.1 hb).1
  have HROW := Lib.hid (show Row Plc.cells 8 w A l from Reads.of_own ho)
  have HR := Lib.hid (show ∀ x ∈ l, 0 ≤ x.first ∧ endOf x ≤ 16 ∧ x.first ≤ 16 from fun x hx => by
    have : ∀ {r : List Plc} {a : Int}, 0 ≤ a → Row16 a r → ∀ x ∈ r, 0 ≤ x.first ∧ endOf x ≤ 16 ∧ x.first ≤ 16 := by
      intro r
      induction r with
      | nil => intro a _ _ x hx; cases hx
      | cons y r ih =>
        intro a ha ⟨g1, g2, g3, g4⟩ x hx
        have e : endOf y = y.first + manyOf y.m := rfl
        have hle := g4.le
        rcases List.mem_cons.1 hx with rfl | hx
        · exact ⟨by omega, hle, by omega⟩
        · exact ih (by omega) g4 x hx
    exact this (Int.le_refl _) hr x hx)
  have HB := Lib.hid hbase
  obtain ⟨S, hS⟩ : ∃ S, S = stepL 0 l := ⟨_, rfl⟩
  have HS := Lib.hid hS
  rw [← hS]
  clear hb ho hm hr hS hbase
  go_enter Tryz.func112, Tryz.ntmps112
  go_wp2_with fail
  go_loopw [3, 12] (fun at_ i wr => ∃ (j : Nat) (a : Int), j ≤ l.length ∧ i = .int .i64 j ∧ at_ = .int .i64 a ∧ 0 ≤ a ∧ a ≤ 16 ∧ stepL 0 l = (stepL a (l.drop j)).map (l.take j ++ ·) ∧ Below w.heap.size w wr) (fun _ i _ => l.length - (intOf i).toNat)
  case atStart => exact ⟨0, 0, by omega, rfl, rfl, by omega, by omega, by simp, Below.refl _ _⟩
  case round =>
    obtain ⟨j, a, hj, rfl, rfl, ha0, ha16, hs, hb⟩ := hrel
    have HBR := Lib.hid hb
    have HSJ := Lib.hid hs
    have q3 := (hb.cell (p := ⟨bp, 3, none⟩) hbl).trans p3
    clear hs
    by_cases hlt : j < l.length
    · have hlt' : (j : Int) < l.length := by omega
      obtain ⟨g, hA, hg, hgl, ⟨cs, hcs⟩, _, _, _⟩ := HO.out.at_ hlt
      obtain ⟨ad, hA2, hab, f0, f1, f2, f3, f4, f5, f6, f7⟩ := plc_at HROW.out hb j hlt
      rw [hA] at hA2
      obtain rfl := Option.some.inj hA2
      have hown := ownM_below HO.out hb
      obtain ⟨g', hA', _, _, _, _, hfr, hset⟩ := PlcOwn.at_ hown hlt
      rw [hA] at hA'
      obtain rfl : g = g' := by injection hA' with h; injection h
      have HSET := Lib.hid hset
      obtain ⟨s1, s2⟩ := step_at hlt HSJ.out
      have S1 := Lib.hid s1
      have S2 := Lib.hid s2
      have hmt := HM.out l[j] (List.getElem_mem _)
      obtain ⟨r1, r2, r3⟩ := HR.out l[j] (List.getElem_mem _)
      have hKP := fun v => Lib.hid (show Kp [77] w (wr.setCell ⟨g, j * 8 + 7, none⟩ v) from (show Kp [77] w wr from fun i cs t fr hi _ => (hb.block i (Array.getElem?_eq_some_iff.1 hi).1).trans hi).trans (Kp.set ((hb.block g hgl).trans hcs) (by simp) _ _))
      have hAD : ∀ (n : Nat), (⟨g, 0, none⟩ : Addr).add (j * 8) = ⟨g, j * 8, none⟩ := fun _ => by
        by_cases h0 : j = 0
        · subst h0; rfl
        · rw [add_pos_ _ _ (by omega)]; simp
      rw [hAD 0] at f0 f1 f2 f3 f4 f5 f6 f7
      have hAD' := hAD 0
      simp only at f0 f1 f2 f3 f4 f5 f6 f7
      subst hA
      obtain ⟨y, hy⟩ : ∃ y, y = l[j]'hlt := ⟨_, rfl⟩
      simp only [← hy] at S1 S2 f0 f1 f2 f3 f4 f5 f6 f7 hmt r1 r2 r3 HSET
      have cE := Lib.hid (fun W => End_any y W hmt r1 r3)
      clear hb hset s1 s2 hAD hy hcs hown
      by_cases hlf : a < y.first
      · have hsome := S1.out hlf
        have HSO := Lib.hid (show S = _ from HS.out.trans hsome)
        have HB2 := Lib.hid (HBR.out.mono HB.out)
        clear hsome S1 S2 r1 r2 r3 hmt
        go_wp2_with fail
        go_ret
        rw [HSO.out]
        exact ⟨rfl, HSET.out a, (hKP _).out, HB2.out.setCell (p := ⟨g, j * 8 + 7, none⟩) hg _⟩
      · have hnext := Lib.hid (S2.out hlf)
        have he0 : 0 ≤ endOf y := by have := manyOf_nonneg y.m; unfold endOf; omega
        clear S1 S2
        go_wp2_with (go_at_call 100; (with_reducible refine (cE.out _).mono ?_); rintro e w5 ⟨rfl, hb5⟩; have HB5 := Lib.hid (HBR.out.trans (hb5.mono HBR.out.size)); clear hb5)
        go_roundw
        case rel => exact ⟨j + 1, endOf y, by omega, by go_num, rfl, he0, r2, hnext.out, HB5.out⟩
        case measure => (simp [intOf]; try omega)
    · obtain rfl : j = l.length := by omega
      have hnone := Lib.hid (show S = none from by rw [HS.out, HSJ.out, List.drop_eq_nil_of_le (Nat.le_refl _)]; rfl)
      clear hb
      go_wp2_with fail
      go_ret
      rw [hnone.out]
      exact ⟨rfl, ownM_below HO.out HBR.out, Kp.of_below HBR.out, HBR.out.mono HB.out⟩

end Go.Proofs.YtogckcjcebckgaaGreat
end

section
/- Plain Lean: packing does not look at where rows lie. No program in sight. -/
open Go
namespace Go.Proofs.YtogckcjcebckgaaGreat

theorem step_bare : ∀ (l : List Plc) (a : Int), stepL a (bares l) = (stepL a l).map bares
  | [], _ => rfl
  | x :: l, a => by
    show stepL a (x.bare :: bares l) = _
    unfold stepL
    have e : endOf x.bare = endOf x := rfl
    have f : x.bare.first = x.first := rfl
    rw [e, f, step_bare l]
    split
    · rfl
    · cases stepL (endOf x) l <;> rfl
theorem pack_bare : ∀ (l : List Plc) (a : Int), packL a (bares l) = (bares (packL a l).1, (packL a l).2)
  | [], _ => rfl
  | x :: l, a => by
    show packL a (x.bare :: bares l) = _
    unfold packL
    have e : manyOf x.bare.m = manyOf x.m := rfl
    have f : x.bare.first = x.first := rfl
    rw [e, f, pack_bare l]; rfl
theorem row16_bare : ∀ (l : List Plc) (a : Int), Row16 a (bares l) ↔ Row16 a l
  | [], _ => Iff.rfl
  | x :: l, a => by
    show (a ≤ x.first ∧ 1 ≤ manyOf x.m ∧ manyOf x.m ≤ 4 ∧ Row16 (endOf x) (bares l)) ↔ _
    rw [row16_bare l]; rfl
theorem step_like {l l' : List Plc} (h : bares l = bares l') (a : Int) : (stepL a l).isSome = (stepL a l').isSome ∧ bares ((stepL a l).getD l) = bares ((stepL a l').getD l') := by
  have e := (step_bare l a).symm.trans ((congrArg (stepL a) h).trans (step_bare l' a))
  cases h1 : stepL a l <;> cases h2 : stepL a l' <;> rw [h1, h2] at e
  · exact ⟨rfl, h⟩
  · cases e
  · cases e
  · exact ⟨rfl, Option.some.inj e⟩
theorem pack_like {l l' : List Plc} (h : bares l = bares l') (a : Int) : bares (packL a l).1 = bares (packL a l').1 ∧ (packL a l).2 = (packL a l').2 := by
  have e := (pack_bare l a).symm.trans ((congrArg (packL a) h).trans (pack_bare l' a))
  have e1 := congrArg Prod.fst e
  have e2 := congrArg Prod.snd e
  exact ⟨e1, e2⟩
theorem row16_like {l l' : List Plc} (h : bares l = bares l') {a : Int} (hr : Row16 a l) : Row16 a l' := by
  rw [← row16_bare] at hr ⊢; rwa [← h]
theorem text_like {l l' : List Plc} (h : bares l = bares l') {n : Nat} (hm : ∀ x ∈ l', x.m.text.size ≤ n) : ∀ x ∈ l, x.m.text.size ≤ n := fun x hx => by
  have : x.bare ∈ bares l' := h ▸ List.mem_map_of_mem hx
  obtain ⟨y, hy, e⟩ := List.mem_map.1 this
  have e2 : y.m.text = x.m.text := congrArg (fun z => z.m.text) e
  rw [← e2]; exact hm y hy
theorem len_like {l l' : List Plc} (h : bares l = bares l') : l.length = l'.length := by
  have := congrArg List.length h
  simpa using this
theorem mods_text {l l' : List Plc} (h : l.map (·.m) = l'.map (·.m)) {n : Nat} (hm : ∀ x ∈ l', x.m.text.size ≤ n) : ∀ x ∈ l, x.m.text.size ≤ n := fun x hx => by
  obtain ⟨y, hy, e⟩ := mods_mem h.symm hx
  rw [← e]; exact hm y hy
theorem stepD_mods (l : List Plc) (a : Int) : ((stepL a l).getD l).map (·.m) = l.map (·.m) := by
  cases h : stepL a l with
  | none => rfl
  | some l' => exact step_mods h

end Go.Proofs.YtogckcjcebckgaaGreat
end

section
/- Packing (chapter J): compact.All. -/
namespace Go.Proofs.YtogckcjcebckgaaGreat
open Go.RowKit Go.Lib

/-- a registry of the call's own that tells what another one tells -/
structure RgIs (W : World) (base : Nat) (k : Krn) (A : Option Addr) (l : List Plc) (c : Nat) (K : Krn) (L : List Plc) : Prop where
  own : RgOwn W base k A l c
  kern : k.bare = K.bare
  mods : bares l = bares L
/-- what the packing loop keeps -/
structure PackInv (w w2 : World) (bp base q : Nat) (k1 : Krn) (A1 : Option Addr) (c1 : Nat) (l1 L : List Plc) (W : World) : Prop where
  heap : W.heap[bp]? = some (.cells #[.int .i64 k1.major, .int .i64 k1.minor, .slice k1.eA k1.ex.length k1.eC, .slice A1 L.length c1] 172 (0, 0))
  row : PlcOwn W base (.slice A1 L.length c1) L
  r16 : Row16 0 L
  same : L.map (·.m) = l1.map (·.m)
  pack : packL 0 l1 = ((packL 0 L).1, (packL 0 L).2 + q)
  kp : Kp [77] w2 W
  bel : Below w.heap.size w W
  size : base ≤ W.heap.size

theorem rgcells {W : World} {b : Nat} {v0 v1 v2 v3 : Value} {t : TypeId} (h : W.heap[b]? = some (.cells #[v0, v1, v2, v3] t (0, 0))) :
    Hid (W.heap[b]? = some (.cells #[v0, v1, v2, v3] t (0, 0))) ∧ W.cell? ⟨b, 0, none⟩ = some v0 ∧ W.cell? ⟨b, 1, none⟩ = some v1 ∧ W.cell? ⟨b, 2, none⟩ = some v2 ∧ W.cell? ⟨b, 3, none⟩ = some v3 ∧ W.frozen? ⟨b, 0, none⟩ = false ∧ W.frozen? ⟨b, 1, none⟩ = false ∧ W.frozen? ⟨b, 2, none⟩ = false ∧ W.frozen? ⟨b, 3, none⟩ = false :=
  ⟨Lib.hid h, heap_cell h 0, heap_cell h 1, heap_cell h 2, heap_cell h 3, heap_free h 0, heap_free h 1, heap_free h 2, heap_free h 3⟩

set_option maxHeartbeats 8000000 in
set_option maxRecDepth 100000 in
theorem PackAll_any (k : Krn) (A : Option Addr) (c : Nat) (l : List Plc) (w : World) (hk : k.ok w) (h : PlsOk w A l) (hm : ∀ x ∈ l, modErr x.m = 0) (hr : Row16 0 l) (h8 : l.length ≤ 8) (hx8 : k.ex.length ≤ 1000000) :
    Calls Tryz.prog 111 #[rgV k A l c] w fun e w' => (∃ k' A' l' c', e = .returned (.tuple #[rgV k' A' l' c', .int .i64 (packL 0 l).2]) ∧ RgIs w' w.heap.size k' A' l' c' k (packL 0 l).1) ∧ Below w.heap.size w w' := by
  obtain ⟨w0, hw0⟩ : ∃ w0, w0 = w.alloc (.cells #[.int .i64 k.major, .int .i64 k.minor, .slice k.eA k.ex.length k.eC, .slice A l.length c] 39) := ⟨_, rfl⟩
  obtain ⟨g0, g1, g2, g3, hz0, hb0⟩ := box4 hw0
  obtain ⟨x0, hx0⟩ : ∃ x0, x0 = w0.alloc (.cells #[.int .i64 0, .int .i64 0, .slice none 0 0, .slice none 0 0] 39) := ⟨_, rfl⟩
  have hbx : Below w0.heap.size w0 x0 := hx0 ▸ (Below.refl _ _).alloc (Nat.le_refl _) _
  have hzx : x0.heap.size = w.heap.size + 2 := by rw [hx0]; simp; omega
  have hR0 : x0.heap[w.heap.size + 1]? = some (.cells #[.int .i64 0, .int .i64 0, .slice none 0 0, .slice none 0 0] 39 (0, 0)) := by rw [hx0, ← hz0]; exact heap_alloc_new w0 _
  have k0 := (hbx.cell (p := ⟨w.heap.size, 0, none⟩) (by simp; omega)).trans g0
  have k1 := (hbx.cell (p := ⟨w.heap.size, 1, none⟩) (by simp; omega)).trans g1
  have k2 := (hbx.cell (p := ⟨w.heap.size, 2, none⟩) (by simp; omega)).trans g2
  have k3 := (hbx.cell (p := ⟨w.heap.size, 3, none⟩) (by simp; omega)).trans g3
  have HX := Lib.hid (hb0.trans (hbx.mono hb0.size))
  have HR0 := Lib.hid hR0
  have HZX := Lib.hid hzx
  have HM := Lib.hid hm
  have H16 := Lib.hid hr
  have c1 := Lib.hid (fun W (hb : Below w.heap.size w W) => Copy_any k A c l W (hk.below hb) (h.below hb) hm h8 hx8)
  have hw0' := hw0.symm
  have hx0' := hx0.symm
  clear hw0 hx0 hb0 hbx hk h g0 g1 g2 g3 hR0 hzx hm hr
  go_enter Tryz.func111, Tryz.ntmps111
  go_wp2_with fail
  refine (c1.out _ HX.out).mono ?_; rintro e w1 ⟨⟨k1', A1, l1, c1', rfl, hk1, hl1, hrg⟩, hb1⟩
  have hll := len_like hl1
  have HB1 := Lib.hid (HX.out.trans (hb1.mono HX.out.size))
  obtain ⟨w2, hw2⟩ : ∃ w2, w2 = w1.alloc (.cells #[.int .i64 k1'.major, .int .i64 k1'.minor, .slice k1'.eA k1'.ex.length k1'.eC, .slice A1 l1.length c1'] 172) := ⟨_, rfl⟩
  have hb2 : Below w1.heap.size w1 w2 := hw2 ▸ (Below.refl _ _).alloc (Nat.le_refl _) _
  have h2 : w2.heap[w1.heap.size]? = some (.cells #[.int .i64 k1'.major, .int .i64 k1'.minor, .slice k1'.eA k1'.ex.length k1'.eC, .slice A1 l1.length c1'] 172 (0, 0)) := by rw [hw2]; exact heap_alloc_new w1 _
  have hs1 := hb1.size
  have HRG := Lib.hid (hrg.below hb2)
  have HL1 := Lib.hid hl1
  have HK1 := Lib.hid hk1
  have HRES := Lib.hid ((hb2.block (w.heap.size + 1) (Nat.lt_of_lt_of_le (Array.getElem?_eq_some_iff.1 HR0.out).1 hs1)).trans ((hb1.block (w.heap.size + 1) (Array.getElem?_eq_some_iff.1 HR0.out).1).trans HR0.out))
  have HI0 := Lib.hid (show PackInv w w2 w1.heap.size x0.heap.size 0 k1' A1 c1' l1 l1 w2 from
    ⟨h2, HRG.out.mods.row, row16_like hl1.symm H16.out, rfl, rfl, Kp.refl _ _, HB1.out.trans (hb2.mono HB1.out.size), Nat.le_trans hs1 hb2.size⟩)
  have HT := Lib.hid (text_like hl1 (n := 256) fun x hx => (modErr_facts (HM.out x hx)).2.2.1)
  have H8 := Lib.hid (show l1.length ≤ 8 by omega)
  have HLE := Lib.hid (pack_le (l := l1) (a := 0))
  have hw2' := hw2.symm
  have HW2 := Lib.hid hw2'
  clear hb1 hrg hw2 hb2 h2 hs1 hl1 hk1 k0 k1 k2 k3 hll
  go_wp2_with fail
  go_loopw [5] (fun n wr => ∃ (q : Nat) (L : List Plc), n = .int .i64 q ∧ q ≤ (packL 0 l1).2 ∧ PackInv w w2 w1.heap.size x0.heap.size q k1' A1 c1' l1 L wr) (fun n _ => (packL 0 l1).2 + 1 - (intOf n).toNat)
  case atStart => exact ⟨0, l1, rfl, Nat.zero_le _, HI0.out⟩
  case round =>
    obtain ⟨q, L, rfl, hq, hI⟩ := hrel
    have HI := Lib.hid hI
    have hlen := len_mods hI.same
    have cS := Lib.hid (packer_any w1.heap.size x0.heap.size k1'.major k1'.minor (.slice k1'.eA k1'.ex.length k1'.eC) A1 c1' L wr hI.heap hI.row hI.size (mods_text hI.same HT.out) hI.r16 (by have := H8.out; omega))
    have HQ := Lib.hid hq
    have hq8 : q ≤ 8 := by have := HLE.out; have := H8.out; omega
    clear hlen
    cases hst : stepL 0 L with
    | none =>
      have HN := Lib.hid (step_none hI.r16 hst)
      rw [hst] at cS
      have HKP := Lib.hid hI.kp
      clear hI hst hq
      go_wp2_with (go_at_call 112; refine (cS.out).mono ?_; rintro e w5 ⟨rfl, ho5, hk5, hb5⟩; have HO5 := Lib.hid ho5; have HK5 := Lib.hid hk5; have HB5 := Lib.hid hb5; obtain ⟨HP5, p0, p1, p2, p3, _⟩ := rgcells (hk5 _ _ _ _ HI.out.heap (by decide)); obtain ⟨HR5, r0, r1, r2, r3, f0, f1, f2, f3⟩ := rgcells (hk5 _ _ _ _ (HKP.out _ _ _ _ HRES.out (by decide)) (by decide)); clear ho5 hk5 hb5)
      obtain ⟨hg, ho⟩ := set4 HR5.out (.int .i64 k1'.major) (.int .i64 k1'.minor) (.slice k1'.eA k1'.ex.length k1'.eC) (.slice A1 L.length c1')
      refine bodyPost_ret (results_cell_tmp rfl _ _ (w.heap.size + 1) 39 _ (0, 0) _ rfl hg Tryz.underlying39 rfl Tryz.sizeReg) rfl ?_
      have hkr := ho.kp HR5.out (ts := [77, 39]) (by simp)
      have hkk : Kp [77, 39] w2 _ := ((HKP.out.mono (ts' := [77, 39]) (by simp)).trans (HK5.out.mono (by simp))).trans hkr
      have hkr' := ho.kp HR5.out (ts := [39]) (by simp)
      have hbase : w.heap.size ≤ x0.heap.size := by have := HZX.out; omega
      have hpk : packL 0 l1 = (L, q) := by rw [HI.out.pack, HN.out]; simp
      obtain ⟨j1, j2⟩ := pack_like HL1.out 0
      rw [hpk] at j1 j2
      refine ⟨⟨k1', A1, L, c1', by rw [← j2]; rfl, ⟨⟨ownM_le (own_kp HRG.out.ex hkk (by decide)) hbase, ⟨ownM_le (own_kp HO5.out hkr' (by decide)) hbase, fun x hx => ?_⟩⟩, HK1.out, j1⟩⟩, ?_⟩
      · obtain ⟨y, hy, e⟩ := mods_mem HI.out.same.symm hx
        rw [← e]
        exact ((HRG.out.mods.each y hy).kp hkk (by decide) (by decide) (by decide)).le hbase
      · exact (HI.out.bel.trans (HB5.out.mono hbase)).trans ((ho.below (Nat.le_of_lt (Array.getElem?_eq_some_iff.1 HR5.out).1)).mono (by omega))
    | some L' =>
      obtain ⟨n1, n2⟩ := step_some hI.r16 hst
      have HMS := Lib.hid (step_mods hst)
      have HN1 := Lib.hid n1
      have HN2 := Lib.hid n2
      rw [hst] at cS
      have hp := hI.pack
      rw [n2] at hp
      have hle : q + 1 ≤ (packL 0 l1).2 := by have e := congrArg Prod.snd hp; simp only at e; omega
      have HPK := Lib.hid (show packL 0 l1 = ((packL 0 L').1, (packL 0 L').2 + (q + 1)) by rw [hp]; simp; omega)
      have HLL := Lib.hid (show L.length = L'.length from (len_mods HMS.out).symm)
      clear hI hst hq n1 n2 hp
      go_wp2_with (go_at_call 112; refine (cS.out).mono ?_; rintro e w5 ⟨rfl, ho5, hk5, hb5⟩; have HO5 := Lib.hid ho5; have HK5 := Lib.hid hk5; have HB5 := Lib.hid hb5; clear ho5 hk5 hb5)
      go_roundw
      case rel =>
        have hh := HK5.out _ _ _ _ HI.out.heap (by decide)
        have hbase : w.heap.size ≤ x0.heap.size := by have := HZX.out; omega
        have ho := HO5.out
        rw [HLL.out] at hh ho
        exact ⟨q + 1, L', by go_num, hle, ⟨hh, ho, HN1.out, HMS.out.trans HI.out.same, HPK.out, HI.out.kp.trans HK5.out, HI.out.bel.trans (HB5.out.mono hbase), Nat.le_trans HI.out.size HB5.out.size⟩⟩
      case measure => (simp [intOf]; try omega)

end Go.Proofs.YtogckcjcebckgaaGreat
end

section
/- Packing (chapter J): compact.Step, Pack. -/
namespace Go.Proofs.YtogckcjcebckgaaGreat
open Go.RowKit Go.Lib

theorem results_cell_tmp2 {P : Program} {fn : Func} {p u v : Tmp} {ty : TypeId} (h : fn.results = #[.cell p ty, .tmp u, .tmp v]) (tmps : Array Value) (w : World) (g : Nat) (t : TypeId) (cs : Array Value) (fr : Nat × Nat) (d : TypeDesc)
    (hp : tmps.getD p undef = .pointer (some ⟨g, 0, none⟩)) (hg : w.heap[g]? = some (.cells cs t fr))
    (hu : P.underlying ty = some d) (hd : (match d with | .struct _ | .array _ _ => true | _ => false) = true) (hi : (P.info? ty).map (·.size) = some cs.size) :
    (results fn tmps).run P w = .ok (.tuple #[.agg cs, tmps.getD u undef, tmps.getD v undef]) w := by
  have hp' : tmps[p]?.getD undef = .pointer (some ⟨g, 0, none⟩) := by simpa using hp
  simp [results, h, hp', asAddr, run_loadVar_row w g t ty cs fr d hg hu hd hi]
theorem krn_small {k : Krn} (h : krnErr k = 0) : k.ex.length ≤ 1000000 := by
  unfold krnErr at h
  split at h
  · omega
  · split at h
    · omega
    · omega
theorem rg_facts {k : Krn} {l : List Plc} (h : rgErr k l = 0) : (∀ x ∈ l, modErr x.m = 0) ∧ Row16 0 l ∧ l.length ≤ 8 ∧ k.ex.length ≤ 1000000 := by
  have h1 := (rgErr_ok h).1
  obtain ⟨k1, k2, k3, _⟩ := linkErr_ok h1
  have hr := reg_row k2
  exact ⟨fun x hx => (hr.2.1 x hx).1, hr.2.2, hr.1, krn_small k1⟩
/-- what is told beside an errno: nothing, or the registry itself -/
def wK (E : Int) (k : Krn) : Krn := if E ≠ 0 then noKrn else k
def wL (E : Int) (l : List Plc) : List Plc := if E ≠ 0 then [] else l
theorem wK0 (k : Krn) : wK 0 k = k := rfl
theorem wL0 (l : List Plc) : wL 0 l = l := rfl
theorem wKE {E : Int} (h : E ≠ 0) (k : Krn) : wK E k = noKrn := if_pos h
theorem wLE {E : Int} (h : E ≠ 0) (l : List Plc) : wL E l = [] := if_pos h
theorem rgIs_none (W : World) (base : Nat) {E : Int} (h : E ≠ 0) (k : Krn) (l : List Plc) : RgIs W base noKrn none [] 0 (wK E k) (wL E l) := by
  rw [wKE h, wLE h]
  exact ⟨⟨World.ownsRow_nil _ _ _ _, ⟨World.ownsRow_nil _ _ _ _, by simp⟩⟩, rfl, rfl⟩

set_option maxHeartbeats 8000000 in
set_option maxRecDepth 100000 in
theorem CStep_any (k : Krn) (A : Option Addr) (c : Nat) (l : List Plc) (w : World) (hk : k.ok w) (h : PlsOk w A l) :
    Calls Tryz.prog 43 #[rgV k A l c] w fun e w' => (∃ k' A' l' c', e = .returned (.tuple #[rgV k' A' l' c', .bool (decide (rgErr k l = 0) && (stepL 0 l).isSome), .int .i64 (rgErr k l)]) ∧ RgIs w' w.heap.size k' A' l' c' (wK (rgErr k l) k) (wL (rgErr k l) ((stepL 0 l).getD l))) ∧ Below w.heap.size w w' := by
  obtain ⟨w0, hw0⟩ : ∃ w0, w0 = w.alloc (.cells #[.int .i64 k.major, .int .i64 k.minor, .slice k.eA k.ex.length k.eC, .slice A l.length c] 39) := ⟨_, rfl⟩
  obtain ⟨g0, g1, g2, g3, hz0, hb0⟩ := box4 hw0
  obtain ⟨x0, hx0⟩ : ∃ x0, x0 = w0.alloc (.cells #[.int .i64 0, .int .i64 0, .slice none 0 0, .slice none 0 0] 39) := ⟨_, rfl⟩
  have hbx : Below w0.heap.size w0 x0 := hx0 ▸ (Below.refl _ _).alloc (Nat.le_refl _) _
  have hzx : x0.heap.size = w.heap.size + 2 := by rw [hx0]; simp; omega
  have HR0 := Lib.hid (show x0.heap[w.heap.size + 1]? = some (.cells #[.int .i64 0, .int .i64 0, .slice none 0 0, .slice none 0 0] 39 (0, 0)) by rw [hx0, ← hz0]; exact heap_alloc_new w0 _)
  have HG0 := Lib.hid (show x0.heap[w.heap.size]? = some (.cells #[.int .i64 k.major, .int .i64 k.minor, .slice k.eA k.ex.length k.eC, .slice A l.length c] 39 (0, 0)) by rw [hx0, heap_alloc_old w0 _ (by omega), hw0]; exact heap_alloc_new w _)
  obtain ⟨_, k0, k1, k2, k3, _⟩ := rgcells HG0.out
  have HX := Lib.hid (hb0.trans (hbx.mono hb0.size))
  have HZX := Lib.hid hzx
  have HP := Lib.hid h
  have HK := Lib.hid hk
  have c1 := Lib.hid (fun W (hb : Below w.heap.size w W) => RegCheck_any k A c l W (hk.below hb) (h.below hb))
  obtain ⟨E, hE⟩ : ∃ E, E = rgErr k l := ⟨_, rfl⟩
  have HE := Lib.hid hE
  rw [← hE] at c1 ⊢
  have hw0' := hw0.symm
  have hx0' := hx0.symm
  clear hw0 hx0 hb0 hbx hk h g0 g1 g2 g3 hzx hE
  by_cases t : E = 0
  · obtain ⟨f1, f2, f3, f4⟩ := rg_facts (HE.out.symm.trans t)
    have F1 := Lib.hid f1
    have F2 := Lib.hid f2
    have c2 := Lib.hid (fun W (hb : Below w.heap.size w W) => Copy_any k A c l W (HK.out.below hb) (HP.out.below hb) f1 f3 f4)
    subst t
    obtain ⟨ok, hok⟩ : ∃ ok, ok = (stepL 0 l).isSome := ⟨_, rfl⟩
    have HOK := Lib.hid hok
    rw [← hok]
    clear f1 f2 f3 f4 hok
    go_enter Tryz.func43, Tryz.ntmps43
    go_wp2_with fail
    refine (c1.out _ HX.out).mono ?_; rintro e w1 ⟨rfl, hb1⟩
    have HB1 := Lib.hid (HX.out.trans (hb1.mono HX.out.size))
    have HR1 := Lib.hid ((hb1.block (w.heap.size + 1) (Array.getElem?_eq_some_iff.1 HR0.out).1).trans HR0.out)
    obtain ⟨_, m0, m1, m2, m3, _⟩ := rgcells ((hb1.block w.heap.size (Array.getElem?_eq_some_iff.1 HG0.out).1).trans HG0.out)
    have HS1 := Lib.hid hb1.size
    clear hb1 k0 k1 k2 k3
    go_wp2_with fail
    refine (c2.out _ HB1.out).mono ?_; rintro e w2 ⟨⟨k2', A2, l2, c2', rfl, hk2, hl2, hrg⟩, hb2⟩
    obtain ⟨w3, hw3⟩ : ∃ w3, w3 = w2.alloc (.cells #[.int .i64 k2'.major, .int .i64 k2'.minor, .slice k2'.eA k2'.ex.length k2'.eC, .slice A2 l2.length c2'] 172) := ⟨_, rfl⟩
    have hb3 : Below w2.heap.size w2 w3 := hw3 ▸ (Below.refl _ _).alloc (Nat.le_refl _) _
    have h3 : w3.heap[w2.heap.size]? = some (.cells #[.int .i64 k2'.major, .int .i64 k2'.minor, .slice k2'.eA k2'.ex.length k2'.eC, .slice A2 l2.length c2'] 172 (0, 0)) := by rw [hw3]; exact heap_alloc_new w2 _
    have HRG := Lib.hid (hrg.below hb3)
    have HL2 := Lib.hid hl2
    have HK2 := Lib.hid hk2
    have HB3 := Lib.hid ((HB1.out.trans (hb2.mono HB1.out.size)).trans (hb3.mono (Nat.le_trans HB1.out.size hb2.size)))
    have hlt2 := Nat.lt_of_lt_of_le (Array.getElem?_eq_some_iff.1 HR1.out).1 hb2.size
    have HR3 := Lib.hid ((hb3.block (w.heap.size + 1) hlt2).trans ((hb2.block (w.heap.size + 1) (Array.getElem?_eq_some_iff.1 HR1.out).1).trans HR1.out))
    have H3 := Lib.hid h3
    have cS := Lib.hid (packer_any w2.heap.size w1.heap.size k2'.major k2'.minor (.slice k2'.eA k2'.ex.length k2'.eC) A2 c2' l2 w3 h3 HRG.out.mods.row (Nat.le_trans hb2.size hb3.size) (text_like hl2 (n := 256) fun x hx => (modErr_facts (F1.out x hx)).2.2.1) (row16_like hl2.symm F2.out) (by have := len_like hl2; have := (rg_facts HE.out.symm).2.2.1; omega))
    obtain ⟨j1, j2⟩ := step_like hl2 0
    have J2 := Lib.hid j2
    have HMS := Lib.hid (stepD_mods l2 0)
    rw [j1, ← HOK.out] at cS
    have hw3' := hw3.symm
    clear hb2 hrg hw3 hb3 h3 hl2 hk2 m0 m1 m2 m3 j1 j2 hlt2
    go_wp2_with (go_at_call 112; refine (cS.out).mono ?_; rintro e w5 ⟨rfl, ho5, hk5, hb5⟩; have HO5 := Lib.hid ho5; have HK5 := Lib.hid hk5; have HB5 := Lib.hid hb5; obtain ⟨HP5, p0, p1, p2, p3, _⟩ := rgcells (hk5 _ _ _ _ H3.out (by decide)); obtain ⟨HR5, r0, r1, r2, r3, f0, f1, f2, f3⟩ := rgcells (hk5 _ _ _ _ HR3.out (by decide)); clear ho5 hk5 hb5)
    obtain ⟨hg, ho⟩ := set4 HR5.out (.int .i64 k2'.major) (.int .i64 k2'.minor) (.slice k2'.eA k2'.ex.length k2'.eC) (.slice A2 l2.length c2')
    refine bodyPost_ret (results_cell_tmp2 rfl _ _ (w.heap.size + 1) 39 _ (0, 0) _ rfl hg Tryz.underlying39 rfl Tryz.sizeReg) rfl ?_
    have hkr := ho.kp HR5.out (ts := [77, 39]) (by simp)
    have hkk : Kp [77, 39] w3 _ := (HK5.out.mono (by simp)).trans hkr
    have hkr' := ho.kp HR5.out (ts := [39]) (by simp)
    have hbase : w.heap.size ≤ w1.heap.size := HB1.out.size
    have hln : ((stepL 0 l2).getD l2).length = l2.length := len_mods HMS.out
    have hrv : rgV k2' A2 ((stepL 0 l2).getD l2) c2' = rgV k2' A2 l2 c2' := by unfold rgV; rw [hln]
    refine ⟨⟨k2', A2, (stepL 0 l2).getD l2, c2', by rw [hrv]; rfl, ⟨⟨ownM_le (own_kp HRG.out.ex hkk (by decide)) hbase, ⟨by rw [hln]; exact ownM_le (own_kp HO5.out hkr' (by decide)) hbase, fun x hx => ?_⟩⟩, HK2.out, J2.out⟩⟩, ?_⟩
    · obtain ⟨y, hy, e⟩ := mods_mem HMS.out.symm hx
      rw [← e]
      exact ((HRG.out.mods.each y hy).kp hkk (by decide) (by decide) (by decide)).le hbase
    · exact (HB3.out.trans (HB5.out.mono hbase)).trans ((ho.below (Nat.le_of_lt (Array.getElem?_eq_some_iff.1 HR5.out).1)).mono (by omega))
  · have t' : (E != 0) = true := by simp [t]
    have T := Lib.hid t
    clear t
    go_enter Tryz.func43, Tryz.ntmps43
    go_wp2_with fail
    refine (c1.out _ HX.out).mono ?_; rintro e w1 ⟨rfl, hb1⟩
    have HB1 := Lib.hid (HX.out.trans (hb1.mono HX.out.size))
    obtain ⟨HR1, r0, r1, r2, r3, f0, f1, f2, f3⟩ := rgcells ((hb1.block (w.heap.size + 1) (Array.getElem?_eq_some_iff.1 HR0.out).1).trans HR0.out)
    clear hb1 k0 k1 k2 k3
    go_wp2_with fail
    obtain ⟨hg, ho⟩ := set4 HR1.out (.int .i64 0) (.int .i64 0) (.slice none 0 0) (.slice none 0 0)
    refine bodyPost_ret (results_cell_tmp2 rfl _ _ (w.heap.size + 1) 39 _ (0, 0) _ rfl hg Tryz.underlying39 rfl Tryz.sizeReg) rfl ?_
    refine ⟨⟨noKrn, none, [], 0, by rw [decide_eq_false T.out]; rfl, rgIs_none _ _ T.out _ _⟩, HB1.out.trans ((ho.below (Nat.le_of_lt (Array.getElem?_eq_some_iff.1 HR1.out).1)).mono (by omega))⟩

set_option maxHeartbeats 8000000 in
set_option maxRecDepth 100000 in
theorem CPack_any (k : Krn) (A : Option Addr) (c : Nat) (l : List Plc) (w : World) (hk : k.ok w) (h : PlsOk w A l) :
    Calls Tryz.prog 42 #[rgV k A l c] w fun e w' => (∃ (n : Nat) (k' : Krn) (A' : Option Addr) (l' : List Plc) (c' : Nat), e = .returned (.tuple #[rgV k' A' l' c', .int .i64 n, .int .i64 (rgErr k l)]) ∧ n = (if rgErr k l ≠ 0 then 0 else (packL 0 l).2) ∧ RgIs w' w.heap.size k' A' l' c' (wK (rgErr k l) k) (wL (rgErr k l) (packL 0 l).1)) ∧ Below w.heap.size w w' := by
  obtain ⟨w0, hw0⟩ : ∃ w0, w0 = w.alloc (.cells #[.int .i64 k.major, .int .i64 k.minor, .slice k.eA k.ex.length k.eC, .slice A l.length c] 39) := ⟨_, rfl⟩
  obtain ⟨g0, g1, g2, g3, hz0, hb0⟩ := box4 hw0
  obtain ⟨x0, hx0⟩ : ∃ x0, x0 = w0.alloc (.cells #[.int .i64 0, .int .i64 0, .slice none 0 0, .slice none 0 0] 39) := ⟨_, rfl⟩
  have hbx : Below w0.heap.size w0 x0 := hx0 ▸ (Below.refl _ _).alloc (Nat.le_refl _) _
  have hzx : x0.heap.size = w.heap.size + 2 := by rw [hx0]; simp; omega
  have HR0 := Lib.hid (show x0.heap[w.heap.size + 1]? = some (.cells #[.int .i64 0, .int .i64 0, .slice none 0 0, .slice none 0 0] 39 (0, 0)) by rw [hx0, ← hz0]; exact heap_alloc_new w0 _)
  have HG0 := Lib.hid (show x0.heap[w.heap.size]? = some (.cells #[.int .i64 k.major, .int .i64 k.minor, .slice k.eA k.ex.length k.eC, .slice A l.length c] 39 (0, 0)) by rw [hx0, heap_alloc_old w0 _ (by omega), hw0]; exact heap_alloc_new w _)
  obtain ⟨_, k0, k1, k2, k3, _⟩ := rgcells HG0.out
  have HX := Lib.hid (hb0.trans (hbx.mono hb0.size))
  have HZX := Lib.hid hzx
  have HP := Lib.hid h
  have HK := Lib.hid hk
  have c1 := Lib.hid (fun W (hb : Below w.heap.size w W) => RegCheck_any k A c l W (hk.below hb) (h.below hb))
  obtain ⟨E, hE⟩ : ∃ E, E = rgErr k l := ⟨_, rfl⟩
  have HE := Lib.hid hE
  rw [← hE] at c1 ⊢
  have hw0' := hw0.symm
  have hx0' := hx0.symm
  clear hw0 hx0 hb0 hbx hk h g0 g1 g2 g3 hzx hE
  by_cases t : E = 0
  · obtain ⟨f1, f2, f3, f4⟩ := rg_facts (HE.out.symm.trans t)
    have c2 := Lib.hid (fun W (hb : Below w.heap.size w W) => PackAll_any k A c l W (HK.out.below hb) (HP.out.below hb) f1 f2 f3 f4)
    subst t
    clear f1 f2 f3 f4
    go_enter Tryz.func42, Tryz.ntmps42
    go_wp2_with fail
    refine (c1.out _ HX.out).mono ?_; rintro e w1 ⟨rfl, hb1⟩
    have HB1 := Lib.hid (HX.out.trans (hb1.mono HX.out.size))
    have HR1 := Lib.hid ((hb1.block (w.heap.size + 1) (Array.getElem?_eq_some_iff.1 HR0.out).1).trans HR0.out)
    obtain ⟨_, m0, m1, m2, m3, _⟩ := rgcells ((hb1.block w.heap.size (Array.getElem?_eq_some_iff.1 HG0.out).1).trans HG0.out)
    have HS1 := Lib.hid hb1.size
    clear hb1 k0 k1 k2 k3
    go_wp2_with fail
    refine (c2.out _ HB1.out).mono ?_; rintro e w2 ⟨⟨k2', A2, l2, c2', rfl, hrg⟩, hb2⟩
    obtain ⟨w3, hw3⟩ : ∃ w3, w3 = w2.alloc (.cells #[.int .i64 k2'.major, .int .i64 k2'.minor, .slice k2'.eA k2'.ex.length k2'.eC, .slice A2 l2.length c2'] 39) := ⟨_, rfl⟩
    have hb3 : Below w2.heap.size w2 w3 := hw3 ▸ (Below.refl _ _).alloc (Nat.le_refl _) _
    have h3 : w3.heap[w2.heap.size]? = some (.cells #[.int .i64 k2'.major, .int .i64 k2'.minor, .slice k2'.eA k2'.ex.length k2'.eC, .slice A2 l2.length c2'] 39 (0, 0)) := by rw [hw3]; exact heap_alloc_new w2 _
    have HRG := Lib.hid (show RgIs w3 w1.heap.size k2' A2 l2 c2' k (packL 0 l).1 from ⟨hrg.own.below hb3, hrg.kern, hrg.mods⟩)
    have HB3 := Lib.hid ((HB1.out.trans (hb2.mono HB1.out.size)).trans (hb3.mono (Nat.le_trans HB1.out.size hb2.size)))
    have hlt2 := Nat.lt_of_lt_of_le (Array.getElem?_eq_some_iff.1 HR1.out).1 hb2.size
    obtain ⟨HR3, r0, r1, r2, r3, f0, f1, f2, f3⟩ := rgcells ((hb3.block (w.heap.size + 1) hlt2).trans ((hb2.block (w.heap.size + 1) (Array.getElem?_eq_some_iff.1 HR1.out).1).trans HR1.out))
    obtain ⟨_, p0, p1, p2, p3, _⟩ := rgcells h3
    have hw3' := hw3.symm
    clear hb2 hrg hb3 h3 m0 m1 m2 m3 hlt2 hw3
    go_wp2_with fail
    obtain ⟨hg, ho⟩ := set4 HR3.out (.int .i64 k2'.major) (.int .i64 k2'.minor) (.slice k2'.eA k2'.ex.length k2'.eC) (.slice A2 l2.length c2')
    refine bodyPost_ret (results_cell_tmp2 rfl _ _ (w.heap.size + 1) 39 _ (0, 0) _ rfl hg Tryz.underlying39 rfl Tryz.sizeReg) rfl ?_
    have hkr := ho.kp HR3.out (ts := [39]) (by simp)
    have hbase : w.heap.size ≤ w1.heap.size := HB1.out.size
    have hown := HRG.out.own.kp hkr (by decide) (by decide) (by decide) (by decide)
    exact ⟨⟨_, k2', A2, l2, c2', rfl, rfl, ⟨⟨ownM_le hown.ex hbase, hown.mods.le hbase⟩, HRG.out.kern, HRG.out.mods⟩⟩, HB3.out.trans ((ho.below (Nat.le_of_lt (Array.getElem?_eq_some_iff.1 HR3.out).1)).mono (by omega))⟩
  · have t' : (E != 0) = true := by simp [t]
    have T := Lib.hid t
    clear t
    go_enter Tryz.func42, Tryz.ntmps42
    go_wp2_with fail
    refine (c1.out _ HX.out).mono ?_; rintro e w1 ⟨rfl, hb1⟩
    have HB1 := Lib.hid (HX.out.trans (hb1.mono HX.out.size))
    obtain ⟨HR1, r0, r1, r2, r3, f0, f1, f2, f3⟩ := rgcells ((hb1.block (w.heap.size + 1) (Array.getElem?_eq_some_iff.1 HR0.out).1).trans HR0.out)
    clear hb1 k0 k1 k2 k3
    go_wp2_with fail
    obtain ⟨hg, ho⟩ := set4 HR1.out (.int .i64 0) (.int .i64 0) (.slice none 0 0) (.slice none 0 0)
    refine bodyPost_ret (results_cell_tmp2 rfl _ _ (w.heap.size + 1) 39 _ (0, 0) _ rfl hg Tryz.underlying39 rfl Tryz.sizeReg) rfl ?_
    refine ⟨⟨0, noKrn, none, [], 0, rfl, (by first | rfl | exact (if_pos T.out).symm), rgIs_none _ _ T.out _ _⟩, HB1.out.trans ((ho.below (Nat.le_of_lt (Array.getElem?_eq_some_iff.1 HR1.out).1)).mono (by omega))⟩

end Go.Proofs.YtogckcjcebckgaaGreat
end

section
/- The document's SamePlaced, SameRegistry, the law's registryIs: of what tells the same they say so. -/
namespace Go.Proofs.YtogckcjcebckgaaGreat
open Go.RowKit Go.Lib

set_option maxHeartbeats 4000000 in
set_option maxRecDepth 100000 in
theorem SamePlaced_any (A A' : Option Addr) (c c' : Nat) (l l' : List Plc) (w : World) (h : PlsOk w A l) (h' : PlsOk w A' l') (hs : bares l = bares l') :
    Calls Tryz.prog 94 #[.slice A l.length c, .slice A' l'.length c'] w fun e w' => e = .returned (.bool true) ∧ Below w.heap.size w w' := by
  have hll : l'.length = l.length := by have := congrArg List.length hs; simpa using this.symm
  rw [hll]
  have hlen := h.len
  unfold big at hlen
  have HP := Lib.hid h
  have HP' := Lib.hid h'
  have HS := Lib.hid (show ∀ j (hj : j < l.length) (hj' : j < l'.length), l[j].m.bare = l'[j].m.bare ∧ l[j].first = l'[j].first from fun j hj hj' => by
    have e : (bares l)[j]'(by simpa using hj) = (bares l')[j]'(by simpa using hj') := by simp only [hs]
    simp only [List.getElem_map] at e
    exact ⟨congrArg Plc.m e, by have := congrArg Plc.first e; exact this⟩)
  have HLL := Lib.hid hll
  clear h h' hs hll
  go_enter Tryz.func94, Tryz.ntmps94
  go_wp2_with fail
  go_loopw [5] (fun i wr => ∃ j : Nat, j ≤ l.length ∧ i = .int .i64 j ∧ Below w.heap.size w wr) (fun i _ => l.length - (intOf i).toNat)
  case atStart => exact ⟨0, by omega, rfl, Below.refl _ _⟩
  case round =>
    obtain ⟨j, hj, rfl, hb⟩ := hrel
    have HB := Lib.hid hb
    by_cases hlt : j < l.length
    · have hlt' : (j : Int) < l.length := by omega
      have hlt2 : j < l'.length := by rw [HLL.out]; exact hlt
      obtain ⟨s1, s2⟩ := HS.out j hlt hlt2
      obtain ⟨ad, rfl, hab, p0, p1, p2, p3, p4, p5, p6, p7⟩ := plc_at HP.out.row hb j hlt
      obtain ⟨bd, rfl, hbb, q0, q1, q2, q3, q4, q5, q6, q7⟩ := plc_at HP'.out.row hb j hlt2
      have hx := HP.out.each l[j] (List.getElem_mem _)
      have hx' := HP'.out.each l'[j] (List.getElem_mem _)
      obtain ⟨y, hy⟩ : ∃ y, y = l[j]'hlt := ⟨_, rfl⟩
      obtain ⟨z, hz⟩ : ∃ z, z = l'[j]'hlt2 := ⟨_, rfl⟩
      simp only [← hy, ← hz] at s1 s2 p0 p1 p2 p3 p4 p5 p6 p7 q0 q1 q2 q3 q4 q5 q6 q7 hx hx'
      have cS := Lib.hid (fun W (hb : Below w.heap.size w W) => SameModule_any y.m z.m W (bare_sameC s1) (hx.below hb) (hx'.below hb))
      have habr : (ad.add (j * 8)).block < wr.heap.size := by rw [block_of_add]; have := hb.size; omega
      have hbbr : (bd.add (j * 8)).block < wr.heap.size := by rw [block_of_add]; have := hb.size; omega
      rw [← s2] at q7
      clear hb s1 s2 hx hx' hy hz hlt2
      have HC0 := Lib.hid (show Below wr.heap.size wr wr ∧ wr.cell? (ad.add (j * 8)) = some (.string y.m.name) ∧ wr.cell? ⟨(ad.add (j * 8)).block, (ad.add (j * 8)).off + 1, none⟩ = some (.int .i64 y.m.major) ∧ wr.cell? ⟨(ad.add (j * 8)).block, (ad.add (j * 8)).off + 2, none⟩ = some (.int .i64 y.m.minor) ∧ wr.cell? ⟨(ad.add (j * 8)).block, (ad.add (j * 8)).off + 3, none⟩ = some (.string y.m.text) ∧ wr.cell? ⟨(ad.add (j * 8)).block, (ad.add (j * 8)).off + 4, none⟩ = some (.slice y.m.eA y.m.ex.length y.m.eC) ∧ wr.cell? ⟨(ad.add (j * 8)).block, (ad.add (j * 8)).off + 5, none⟩ = some (.slice y.m.iA y.m.im.length y.m.iC) ∧ wr.cell? ⟨(ad.add (j * 8)).block, (ad.add (j * 8)).off + 6, none⟩ = some (.slice y.m.pA y.m.pa.length y.m.pC) ∧ wr.cell? ⟨(ad.add (j * 8)).block, (ad.add (j * 8)).off + 7, none⟩ = some (.int .i64 y.first) ∧ wr.cell? (bd.add (j * 8)) = some (.string z.m.name) ∧ wr.cell? ⟨(bd.add (j * 8)).block, (bd.add (j * 8)).off + 1, none⟩ = some (.int .i64 z.m.major) ∧ wr.cell? ⟨(bd.add (j * 8)).block, (bd.add (j * 8)).off + 2, none⟩ = some (.int .i64 z.m.minor) ∧ wr.cell? ⟨(bd.add (j * 8)).block, (bd.add (j * 8)).off + 3, none⟩ = some (.string z.m.text) ∧ wr.cell? ⟨(bd.add (j * 8)).block, (bd.add (j * 8)).off + 4, none⟩ = some (.slice z.m.eA z.m.ex.length z.m.eC) ∧ wr.cell? ⟨(bd.add (j * 8)).block, (bd.add (j * 8)).off + 5, none⟩ = some (.slice z.m.iA z.m.im.length z.m.iC) ∧ wr.cell? ⟨(bd.add (j * 8)).block, (bd.add (j * 8)).off + 6, none⟩ = some (.slice z.m.pA z.m.pa.length z.m.pC) ∧ wr.cell? ⟨(bd.add (j * 8)).block, (bd.add (j * 8)).off + 7, none⟩ = some (.int .i64 y.first) from ⟨Below.refl _ _, by assumption, by assumption, by assumption, by assumption, by assumption, by assumption, by assumption, by assumption, by assumption, by assumption, by assumption, by assumption, by assumption, by assumption, by assumption, by assumption⟩)
      have HCD := Lib.hid (show ∀ W' : World, (Below wr.heap.size wr W' ∧ W'.cell? (ad.add (j * 8)) = some (.string y.m.name) ∧ W'.cell? ⟨(ad.add (j * 8)).block, (ad.add (j * 8)).off + 1, none⟩ = some (.int .i64 y.m.major) ∧ W'.cell? ⟨(ad.add (j * 8)).block, (ad.add (j * 8)).off + 2, none⟩ = some (.int .i64 y.m.minor) ∧ W'.cell? ⟨(ad.add (j * 8)).block, (ad.add (j * 8)).off + 3, none⟩ = some (.string y.m.text) ∧ W'.cell? ⟨(ad.add (j * 8)).block, (ad.add (j * 8)).off + 4, none⟩ = some (.slice y.m.eA y.m.ex.length y.m.eC) ∧ W'.cell? ⟨(ad.add (j * 8)).block, (ad.add (j * 8)).off + 5, none⟩ = some (.slice y.m.iA y.m.im.length y.m.iC) ∧ W'.cell? ⟨(ad.add (j * 8)).block, (ad.add (j * 8)).off + 6, none⟩ = some (.slice y.m.pA y.m.pa.length y.m.pC) ∧ W'.cell? ⟨(ad.add (j * 8)).block, (ad.add (j * 8)).off + 7, none⟩ = some (.int .i64 y.first) ∧ W'.cell? (bd.add (j * 8)) = some (.string z.m.name) ∧ W'.cell? ⟨(bd.add (j * 8)).block, (bd.add (j * 8)).off + 1, none⟩ = some (.int .i64 z.m.major) ∧ W'.cell? ⟨(bd.add (j * 8)).block, (bd.add (j * 8)).off + 2, none⟩ = some (.int .i64 z.m.minor) ∧ W'.cell? ⟨(bd.add (j * 8)).block, (bd.add (j * 8)).off + 3, none⟩ = some (.string z.m.text) ∧ W'.cell? ⟨(bd.add (j * 8)).block, (bd.add (j * 8)).off + 4, none⟩ = some (.slice z.m.eA z.m.ex.length z.m.eC) ∧ W'.cell? ⟨(bd.add (j * 8)).block, (bd.add (j * 8)).off + 5, none⟩ = some (.slice z.m.iA z.m.im.length z.m.iC) ∧ W'.cell? ⟨(bd.add (j * 8)).block, (bd.add (j * 8)).off + 6, none⟩ = some (.slice z.m.pA z.m.pa.length z.m.pC) ∧ W'.cell? ⟨(bd.add (j * 8)).block, (bd.add (j * 8)).off + 7, none⟩ = some (.int .i64 y.first)) → (Below wr.heap.size wr W'.drew ∧ W'.drew.cell? (ad.add (j * 8)) = some (.string y.m.name) ∧ W'.drew.cell? ⟨(ad.add (j * 8)).block, (ad.add (j * 8)).off + 1, none⟩ = some (.int .i64 y.m.major) ∧ W'.drew.cell? ⟨(ad.add (j * 8)).block, (ad.add (j * 8)).off + 2, none⟩ = some (.int .i64 y.m.minor) ∧ W'.drew.cell? ⟨(ad.add (j * 8)).block, (ad.add (j * 8)).off + 3, none⟩ = some (.string y.m.text) ∧ W'.drew.cell? ⟨(ad.add (j * 8)).block, (ad.add (j * 8)).off + 4, none⟩ = some (.slice y.m.eA y.m.ex.length y.m.eC) ∧ W'.drew.cell? ⟨(ad.add (j * 8)).block, (ad.add (j * 8)).off + 5, none⟩ = some (.slice y.m.iA y.m.im.length y.m.iC) ∧ W'.drew.cell? ⟨(ad.add (j * 8)).block, (ad.add (j * 8)).off + 6, none⟩ = some (.slice y.m.pA y.m.pa.length y.m.pC) ∧ W'.drew.cell? ⟨(ad.add (j * 8)).block, (ad.add (j * 8)).off + 7, none⟩ = some (.int .i64 y.first) ∧ W'.drew.cell? (bd.add (j * 8)) = some (.string z.m.name) ∧ W'.drew.cell? ⟨(bd.add (j * 8)).block, (bd.add (j * 8)).off + 1, none⟩ = some (.int .i64 z.m.major) ∧ W'.drew.cell? ⟨(bd.add (j * 8)).block, (bd.add (j * 8)).off + 2, none⟩ = some (.int .i64 z.m.minor) ∧ W'.drew.cell? ⟨(bd.add (j * 8)).block, (bd.add (j * 8)).off + 3, none⟩ = some (.string z.m.text) ∧ W'.drew.cell? ⟨(bd.add (j * 8)).block, (bd.add (j * 8)).off + 4, none⟩ = some (.slice z.m.eA z.m.ex.length z.m.eC) ∧ W'.drew.cell? ⟨(bd.add (j * 8)).block, (bd.add (j * 8)).off + 5, none⟩ = some (.slice z.m.iA z.m.im.length z.m.iC) ∧ W'.drew.cell? ⟨(bd.add (j * 8)).block, (bd.add (j * 8)).off + 6, none⟩ = some (.slice z.m.pA z.m.pa.length z.m.pC) ∧ W'.drew.cell? ⟨(bd.add (j * 8)).block, (bd.add (j * 8)).off + 7, none⟩ = some (.int .i64 y.first)) from fun W' ⟨b, a0, a1, a2, a3, a4, a5, a6, a7, a8, a9, a10, a11, a12, a13, a14, a15⟩ => ⟨b.drew, a0, a1, a2, a3, a4, a5, a6, a7, a8, a9, a10, a11, a12, a13, a14, a15⟩)
      have HCS := Lib.hid (show ∀ W' W2 : World, (Below wr.heap.size wr W' ∧ W'.cell? (ad.add (j * 8)) = some (.string y.m.name) ∧ W'.cell? ⟨(ad.add (j * 8)).block, (ad.add (j * 8)).off + 1, none⟩ = some (.int .i64 y.m.major) ∧ W'.cell? ⟨(ad.add (j * 8)).block, (ad.add (j * 8)).off + 2, none⟩ = some (.int .i64 y.m.minor) ∧ W'.cell? ⟨(ad.add (j * 8)).block, (ad.add (j * 8)).off + 3, none⟩ = some (.string y.m.text) ∧ W'.cell? ⟨(ad.add (j * 8)).block, (ad.add (j * 8)).off + 4, none⟩ = some (.slice y.m.eA y.m.ex.length y.m.eC) ∧ W'.cell? ⟨(ad.add (j * 8)).block, (ad.add (j * 8)).off + 5, none⟩ = some (.slice y.m.iA y.m.im.length y.m.iC) ∧ W'.cell? ⟨(ad.add (j * 8)).block, (ad.add (j * 8)).off + 6, none⟩ = some (.slice y.m.pA y.m.pa.length y.m.pC) ∧ W'.cell? ⟨(ad.add (j * 8)).block, (ad.add (j * 8)).off + 7, none⟩ = some (.int .i64 y.first) ∧ W'.cell? (bd.add (j * 8)) = some (.string z.m.name) ∧ W'.cell? ⟨(bd.add (j * 8)).block, (bd.add (j * 8)).off + 1, none⟩ = some (.int .i64 z.m.major) ∧ W'.cell? ⟨(bd.add (j * 8)).block, (bd.add (j * 8)).off + 2, none⟩ = some (.int .i64 z.m.minor) ∧ W'.cell? ⟨(bd.add (j * 8)).block, (bd.add (j * 8)).off + 3, none⟩ = some (.string z.m.text) ∧ W'.cell? ⟨(bd.add (j * 8)).block, (bd.add (j * 8)).off + 4, none⟩ = some (.slice z.m.eA z.m.ex.length z.m.eC) ∧ W'.cell? ⟨(bd.add (j * 8)).block, (bd.add (j * 8)).off + 5, none⟩ = some (.slice z.m.iA z.m.im.length z.m.iC) ∧ W'.cell? ⟨(bd.add (j * 8)).block, (bd.add (j * 8)).off + 6, none⟩ = some (.slice z.m.pA z.m.pa.length z.m.pC) ∧ W'.cell? ⟨(bd.add (j * 8)).block, (bd.add (j * 8)).off + 7, none⟩ = some (.int .i64 y.first)) → Below W'.heap.size W' W2 → (Below wr.heap.size wr W2 ∧ W2.cell? (ad.add (j * 8)) = some (.string y.m.name) ∧ W2.cell? ⟨(ad.add (j * 8)).block, (ad.add (j * 8)).off + 1, none⟩ = some (.int .i64 y.m.major) ∧ W2.cell? ⟨(ad.add (j * 8)).block, (ad.add (j * 8)).off + 2, none⟩ = some (.int .i64 y.m.minor) ∧ W2.cell? ⟨(ad.add (j * 8)).block, (ad.add (j * 8)).off + 3, none⟩ = some (.string y.m.text) ∧ W2.cell? ⟨(ad.add (j * 8)).block, (ad.add (j * 8)).off + 4, none⟩ = some (.slice y.m.eA y.m.ex.length y.m.eC) ∧ W2.cell? ⟨(ad.add (j * 8)).block, (ad.add (j * 8)).off + 5, none⟩ = some (.slice y.m.iA y.m.im.length y.m.iC) ∧ W2.cell? ⟨(ad.add (j * 8)).block, (ad.add (j * 8)).off + 6, none⟩ = some (.slice y.m.pA y.m.pa.length y.m.pC) ∧ W2.cell? ⟨(ad.add (j * 8)).block, (ad.add (j * 8)).off + 7, none⟩ = some (.int .i64 y.first) ∧ W2.cell? (bd.add (j * 8)) = some (.string z.m.name) ∧ W2.cell? ⟨(bd.add (j * 8)).block, (bd.add (j * 8)).off + 1, none⟩ = some (.int .i64 z.m.major) ∧ W2.cell? ⟨(bd.add (j * 8)).block, (bd.add (j * 8)).off + 2, none⟩ = some (.int .i64 z.m.minor) ∧ W2.cell? ⟨(bd.add (j * 8)).block, (bd.add (j * 8)).off + 3, none⟩ = some (.string z.m.text) ∧ W2.cell? ⟨(bd.add (j * 8)).block, (bd.add (j * 8)).off + 4, none⟩ = some (.slice z.m.eA z.m.ex.length z.m.eC) ∧ W2.cell? ⟨(bd.add (j * 8)).block, (bd.add (j * 8)).off + 5, none⟩ = some (.slice z.m.iA z.m.im.length z.m.iC) ∧ W2.cell? ⟨(bd.add (j * 8)).block, (bd.add (j * 8)).off + 6, none⟩ = some (.slice z.m.pA z.m.pa.length z.m.pC) ∧ W2.cell? ⟨(bd.add (j * 8)).block, (bd.add (j * 8)).off + 7, none⟩ = some (.int .i64 y.first)) from fun W' W2 ⟨b, a0, a1, a2, a3, a4, a5, a6, a7, a8, a9, a10, a11, a12, a13, a14, a15⟩ hb => have s := b.size; ⟨b.trans (hb.mono s), (hb.cell (by first | omega | (simp; omega) | (simp only [block_of_add]; omega))).trans a0, (hb.cell (by first | omega | (simp; omega) | (simp only [block_of_add]; omega))).trans a1, (hb.cell (by first | omega | (simp; omega) | (simp only [block_of_add]; omega))).trans a2, (hb.cell (by first | omega | (simp; omega) | (simp only [block_of_add]; omega))).trans a3, (hb.cell (by first | omega | (simp; omega) | (simp only [block_of_add]; omega))).trans a4, (hb.cell (by first | omega | (simp; omega) | (simp only [block_of_add]; omega))).trans a5, (hb.cell (by first | omega | (simp; omega) | (simp only [block_of_add]; omega))).trans a6, (hb.cell (by first | omega | (simp; omega) | (simp only [block_of_add]; omega))).trans a7, (hb.cell (by first | omega | (simp; omega) | (simp only [block_of_add]; omega))).trans a8, (hb.cell (by first | omega | (simp; omega) | (simp only [block_of_add]; omega))).trans a9, (hb.cell (by first | omega | (simp; omega) | (simp only [block_of_add]; omega))).trans a10, (hb.cell (by first | omega | (simp; omega) | (simp only [block_of_add]; omega))).trans a11, (hb.cell (by first | omega | (simp; omega) | (simp only [block_of_add]; omega))).trans a12, (hb.cell (by first | omega | (simp; omega) | (simp only [block_of_add]; omega))).trans a13, (hb.cell (by first | omega | (simp; omega) | (simp only [block_of_add]; omega))).trans a14, (hb.cell (by first | omega | (simp; omega) | (simp only [block_of_add]; omega))).trans a15⟩)
      have HCA := Lib.hid (show ∀ (W' : World) (o : Obj), (Below wr.heap.size wr W' ∧ W'.cell? (ad.add (j * 8)) = some (.string y.m.name) ∧ W'.cell? ⟨(ad.add (j * 8)).block, (ad.add (j * 8)).off + 1, none⟩ = some (.int .i64 y.m.major) ∧ W'.cell? ⟨(ad.add (j * 8)).block, (ad.add (j * 8)).off + 2, none⟩ = some (.int .i64 y.m.minor) ∧ W'.cell? ⟨(ad.add (j * 8)).block, (ad.add (j * 8)).off + 3, none⟩ = some (.string y.m.text) ∧ W'.cell? ⟨(ad.add (j * 8)).block, (ad.add (j * 8)).off + 4, none⟩ = some (.slice y.m.eA y.m.ex.length y.m.eC) ∧ W'.cell? ⟨(ad.add (j * 8)).block, (ad.add (j * 8)).off + 5, none⟩ = some (.slice y.m.iA y.m.im.length y.m.iC) ∧ W'.cell? ⟨(ad.add (j * 8)).block, (ad.add (j * 8)).off + 6, none⟩ = some (.slice y.m.pA y.m.pa.length y.m.pC) ∧ W'.cell? ⟨(ad.add (j * 8)).block, (ad.add (j * 8)).off + 7, none⟩ = some (.int .i64 y.first) ∧ W'.cell? (bd.add (j * 8)) = some (.string z.m.name) ∧ W'.cell? ⟨(bd.add (j * 8)).block, (bd.add (j * 8)).off + 1, none⟩ = some (.int .i64 z.m.major) ∧ W'.cell? ⟨(bd.add (j * 8)).block, (bd.add (j * 8)).off + 2, none⟩ = some (.int .i64 z.m.minor) ∧ W'.cell? ⟨(bd.add (j * 8)).block, (bd.add (j * 8)).off + 3, none⟩ = some (.string z.m.text) ∧ W'.cell? ⟨(bd.add (j * 8)).block, (bd.add (j * 8)).off + 4, none⟩ = some (.slice z.m.eA z.m.ex.length z.m.eC) ∧ W'.cell? ⟨(bd.add (j * 8)).block, (bd.add (j * 8)).off + 5, none⟩ = some (.slice z.m.iA z.m.im.length z.m.iC) ∧ W'.cell? ⟨(bd.add (j * 8)).block, (bd.add (j * 8)).off + 6, none⟩ = some (.slice z.m.pA z.m.pa.length z.m.pC) ∧ W'.cell? ⟨(bd.add (j * 8)).block, (bd.add (j * 8)).off + 7, none⟩ = some (.int .i64 y.first)) → (Below wr.heap.size wr (W'.alloc o) ∧ (W'.alloc o).cell? (ad.add (j * 8)) = some (.string y.m.name) ∧ (W'.alloc o).cell? ⟨(ad.add (j * 8)).block, (ad.add (j * 8)).off + 1, none⟩ = some (.int .i64 y.m.major) ∧ (W'.alloc o).cell? ⟨(ad.add (j * 8)).block, (ad.add (j * 8)).off + 2, none⟩ = some (.int .i64 y.m.minor) ∧ (W'.alloc o).cell? ⟨(ad.add (j * 8)).block, (ad.add (j * 8)).off + 3, none⟩ = some (.string y.m.text) ∧ (W'.alloc o).cell? ⟨(ad.add (j * 8)).block, (ad.add (j * 8)).off + 4, none⟩ = some (.slice y.m.eA y.m.ex.length y.m.eC) ∧ (W'.alloc o).cell? ⟨(ad.add (j * 8)).block, (ad.add (j * 8)).off + 5, none⟩ = some (.slice y.m.iA y.m.im.length y.m.iC) ∧ (W'.alloc o).cell? ⟨(ad.add (j * 8)).block, (ad.add (j * 8)).off + 6, none⟩ = some (.slice y.m.pA y.m.pa.length y.m.pC) ∧ (W'.alloc o).cell? ⟨(ad.add (j * 8)).block, (ad.add (j * 8)).off + 7, none⟩ = some (.int .i64 y.first) ∧ (W'.alloc o).cell? (bd.add (j * 8)) = some (.string z.m.name) ∧ (W'.alloc o).cell? ⟨(bd.add (j * 8)).block, (bd.add (j * 8)).off + 1, none⟩ = some (.int .i64 z.m.major) ∧ (W'.alloc o).cell? ⟨(bd.add (j * 8)).block, (bd.add (j * 8)).off + 2, none⟩ = some (.int .i64 z.m.minor) ∧ (W'.alloc o).cell? ⟨(bd.add (j * 8)).block, (bd.add (j * 8)).off + 3, none⟩ = some (.string z.m.text) ∧ (W'.alloc o).cell? ⟨(bd.add (j * 8)).block, (bd.add (j * 8)).off + 4, none⟩ = some (.slice z.m.eA z.m.ex.length z.m.eC) ∧ (W'.alloc o).cell? ⟨(bd.add (j * 8)).block, (bd.add (j * 8)).off + 5, none⟩ = some (.slice z.m.iA z.m.im.length z.m.iC) ∧ (W'.alloc o).cell? ⟨(bd.add (j * 8)).block, (bd.add (j * 8)).off + 6, none⟩ = some (.slice z.m.pA z.m.pa.length z.m.pC) ∧ (W'.alloc o).cell? ⟨(bd.add (j * 8)).block, (bd.add (j * 8)).off + 7, none⟩ = some (.int .i64 y.first)) from fun W' o hc => HCS.out W' (W'.alloc o) hc ((Below.refl _ _).alloc (Nat.le_refl _) o))
      have HCX := Lib.hid (show ∀ (W' : World) (bX oX : Nat) (vX : Value), wr.heap.size ≤ bX → (Below wr.heap.size wr W' ∧ W'.cell? (ad.add (j * 8)) = some (.string y.m.name) ∧ W'.cell? ⟨(ad.add (j * 8)).block, (ad.add (j * 8)).off + 1, none⟩ = some (.int .i64 y.m.major) ∧ W'.cell? ⟨(ad.add (j * 8)).block, (ad.add (j * 8)).off + 2, none⟩ = some (.int .i64 y.m.minor) ∧ W'.cell? ⟨(ad.add (j * 8)).block, (ad.add (j * 8)).off + 3, none⟩ = some (.string y.m.text) ∧ W'.cell? ⟨(ad.add (j * 8)).block, (ad.add (j * 8)).off + 4, none⟩ = some (.slice y.m.eA y.m.ex.length y.m.eC) ∧ W'.cell? ⟨(ad.add (j * 8)).block, (ad.add (j * 8)).off + 5, none⟩ = some (.slice y.m.iA y.m.im.length y.m.iC) ∧ W'.cell? ⟨(ad.add (j * 8)).block, (ad.add (j * 8)).off + 6, none⟩ = some (.slice y.m.pA y.m.pa.length y.m.pC) ∧ W'.cell? ⟨(ad.add (j * 8)).block, (ad.add (j * 8)).off + 7, none⟩ = some (.int .i64 y.first) ∧ W'.cell? (bd.add (j * 8)) = some (.string z.m.name) ∧ W'.cell? ⟨(bd.add (j * 8)).block, (bd.add (j * 8)).off + 1, none⟩ = some (.int .i64 z.m.major) ∧ W'.cell? ⟨(bd.add (j * 8)).block, (bd.add (j * 8)).off + 2, none⟩ = some (.int .i64 z.m.minor) ∧ W'.cell? ⟨(bd.add (j * 8)).block, (bd.add (j * 8)).off + 3, none⟩ = some (.string z.m.text) ∧ W'.cell? ⟨(bd.add (j * 8)).block, (bd.add (j * 8)).off + 4, none⟩ = some (.slice z.m.eA z.m.ex.length z.m.eC) ∧ W'.cell? ⟨(bd.add (j * 8)).block, (bd.add (j * 8)).off + 5, none⟩ = some (.slice z.m.iA z.m.im.length z.m.iC) ∧ W'.cell? ⟨(bd.add (j * 8)).block, (bd.add (j * 8)).off + 6, none⟩ = some (.slice z.m.pA z.m.pa.length z.m.pC) ∧ W'.cell? ⟨(bd.add (j * 8)).block, (bd.add (j * 8)).off + 7, none⟩ = some (.int .i64 y.first)) → (Below wr.heap.size wr (W'.setCell ⟨bX, oX, none⟩ vX) ∧ (W'.setCell ⟨bX, oX, none⟩ vX).cell? (ad.add (j * 8)) = some (.string y.m.name) ∧ (W'.setCell ⟨bX, oX, none⟩ vX).cell? ⟨(ad.add (j * 8)).block, (ad.add (j * 8)).off + 1, none⟩ = some (.int .i64 y.m.major) ∧ (W'.setCell ⟨bX, oX, none⟩ vX).cell? ⟨(ad.add (j * 8)).block, (ad.add (j * 8)).off + 2, none⟩ = some (.int .i64 y.m.minor) ∧ (W'.setCell ⟨bX, oX, none⟩ vX).cell? ⟨(ad.add (j * 8)).block, (ad.add (j * 8)).off + 3, none⟩ = some (.string y.m.text) ∧ (W'.setCell ⟨bX, oX, none⟩ vX).cell? ⟨(ad.add (j * 8)).block, (ad.add (j * 8)).off + 4, none⟩ = some (.slice y.m.eA y.m.ex.length y.m.eC) ∧ (W'.setCell ⟨bX, oX, none⟩ vX).cell? ⟨(ad.add (j * 8)).block, (ad.add (j * 8)).off + 5, none⟩ = some (.slice y.m.iA y.m.im.length y.m.iC) ∧ (W'.setCell ⟨bX, oX, none⟩ vX).cell? ⟨(ad.add (j * 8)).block, (ad.add (j * 8)).off + 6, none⟩ = some (.slice y.m.pA y.m.pa.length y.m.pC) ∧ (W'.setCell ⟨bX, oX, none⟩ vX).cell? ⟨(ad.add (j * 8)).block, (ad.add (j * 8)).off + 7, none⟩ = some (.int .i64 y.first) ∧ (W'.setCell ⟨bX, oX, none⟩ vX).cell? (bd.add (j * 8)) = some (.string z.m.name) ∧ (W'.setCell ⟨bX, oX, none⟩ vX).cell? ⟨(bd.add (j * 8)).block, (bd.add (j * 8)).off + 1, none⟩ = some (.int .i64 z.m.major) ∧ (W'.setCell ⟨bX, oX, none⟩ vX).cell? ⟨(bd.add (j * 8)).block, (bd.add (j * 8)).off + 2, none⟩ = some (.int .i64 z.m.minor) ∧ (W'.setCell ⟨bX, oX, none⟩ vX).cell? ⟨(bd.add (j * 8)).block, (bd.add (j * 8)).off + 3, none⟩ = some (.string z.m.text) ∧ (W'.setCell ⟨bX, oX, none⟩ vX).cell? ⟨(bd.add (j * 8)).block, (bd.add (j * 8)).off + 4, none⟩ = some (.slice z.m.eA z.m.ex.length z.m.eC) ∧ (W'.setCell ⟨bX, oX, none⟩ vX).cell? ⟨(bd.add (j * 8)).block, (bd.add (j * 8)).off + 5, none⟩ = some (.slice z.m.iA z.m.im.length z.m.iC) ∧ (W'.setCell ⟨bX, oX, none⟩ vX).cell? ⟨(bd.add (j * 8)).block, (bd.add (j * 8)).off + 6, none⟩ = some (.slice z.m.pA z.m.pa.length z.m.pC) ∧ (W'.setCell ⟨bX, oX, none⟩ vX).cell? ⟨(bd.add (j * 8)).block, (bd.add (j * 8)).off + 7, none⟩ = some (.int .i64 y.first)) from fun W' bX oX vX hbX ⟨b, a0, a1, a2, a3, a4, a5, a6, a7, a8, a9, a10, a11, a12, a13, a14, a15⟩ => ⟨b.setCell (p := ⟨bX, oX, none⟩) hbX vX, (((Below.refl _ _).setCell (p := ⟨bX, oX, none⟩) hbX vX).cell (by first | omega | (simp; omega) | (simp only [block_of_add]; omega))).trans a0, (((Below.refl _ _).setCell (p := ⟨bX, oX, none⟩) hbX vX).cell (by first | omega | (simp; omega) | (simp only [block_of_add]; omega))).trans a1, (((Below.refl _ _).setCell (p := ⟨bX, oX, none⟩) hbX vX).cell (by first | omega | (simp; omega) | (simp only [block_of_add]; omega))).trans a2, (((Below.refl _ _).setCell (p := ⟨bX, oX, none⟩) hbX vX).cell (by first | omega | (simp; omega) | (simp only [block_of_add]; omega))).trans a3, (((Below.refl _ _).setCell (p := ⟨bX, oX, none⟩) hbX vX).cell (by first | omega | (simp; omega) | (simp only [block_of_add]; omega))).trans a4, (((Below.refl _ _).setCell (p := ⟨bX, oX, none⟩) hbX vX).cell (by first | omega | (simp; omega) | (simp only [block_of_add]; omega))).trans a5, (((Below.refl _ _).setCell (p := ⟨bX, oX, none⟩) hbX vX).cell (by first | omega | (simp; omega) | (simp only [block_of_add]; omega))).trans a6, (((Below.refl _ _).setCell (p := ⟨bX, oX, none⟩) hbX vX).cell (by first | omega | (simp; omega) | (simp only [block_of_add]; omega))).trans a7, (((Below.refl _ _).setCell (p := ⟨bX, oX, none⟩) hbX vX).cell (by first | omega | (simp; omega) | (simp only [block_of_add]; omega))).trans a8, (((Below.refl _ _).setCell (p := ⟨bX, oX, none⟩) hbX vX).cell (by first | omega | (simp; omega) | (simp only [block_of_add]; omega))).trans a9, (((Below.refl _ _).setCell (p := ⟨bX, oX, none⟩) hbX vX).cell (by first | omega | (simp; omega) | (simp only [block_of_add]; omega))).trans a10, (((Below.refl _ _).setCell (p := ⟨bX, oX, none⟩) hbX vX).cell (by first | omega | (simp; omega) | (simp only [block_of_add]; omega))).trans a11, (((Below.refl _ _).setCell (p := ⟨bX, oX, none⟩) hbX vX).cell (by first | omega | (simp; omega) | (simp only [block_of_add]; omega))).trans a12, (((Below.refl _ _).setCell (p := ⟨bX, oX, none⟩) hbX vX).cell (by first | omega | (simp; omega) | (simp only [block_of_add]; omega))).trans a13, (((Below.refl _ _).setCell (p := ⟨bX, oX, none⟩) hbX vX).cell (by first | omega | (simp; omega) | (simp only [block_of_add]; omega))).trans a14, (((Below.refl _ _).setCell (p := ⟨bX, oX, none⟩) hbX vX).cell (by first | omega | (simp; omega) | (simp only [block_of_add]; omega))).trans a15⟩)
      have HCL := Lib.hid (show ∀ W' : World, (Below wr.heap.size wr W' ∧ W'.cell? (ad.add (j * 8)) = some (.string y.m.name) ∧ W'.cell? ⟨(ad.add (j * 8)).block, (ad.add (j * 8)).off + 1, none⟩ = some (.int .i64 y.m.major) ∧ W'.cell? ⟨(ad.add (j * 8)).block, (ad.add (j * 8)).off + 2, none⟩ = some (.int .i64 y.m.minor) ∧ W'.cell? ⟨(ad.add (j * 8)).block, (ad.add (j * 8)).off + 3, none⟩ = some (.string y.m.text) ∧ W'.cell? ⟨(ad.add (j * 8)).block, (ad.add (j * 8)).off + 4, none⟩ = some (.slice y.m.eA y.m.ex.length y.m.eC) ∧ W'.cell? ⟨(ad.add (j * 8)).block, (ad.add (j * 8)).off + 5, none⟩ = some (.slice y.m.iA y.m.im.length y.m.iC) ∧ W'.cell? ⟨(ad.add (j * 8)).block, (ad.add (j * 8)).off + 6, none⟩ = some (.slice y.m.pA y.m.pa.length y.m.pC) ∧ W'.cell? ⟨(ad.add (j * 8)).block, (ad.add (j * 8)).off + 7, none⟩ = some (.int .i64 y.first) ∧ W'.cell? (bd.add (j * 8)) = some (.string z.m.name) ∧ W'.cell? ⟨(bd.add (j * 8)).block, (bd.add (j * 8)).off + 1, none⟩ = some (.int .i64 z.m.major) ∧ W'.cell? ⟨(bd.add (j * 8)).block, (bd.add (j * 8)).off + 2, none⟩ = some (.int .i64 z.m.minor) ∧ W'.cell? ⟨(bd.add (j * 8)).block, (bd.add (j * 8)).off + 3, none⟩ = some (.string z.m.text) ∧ W'.cell? ⟨(bd.add (j * 8)).block, (bd.add (j * 8)).off + 4, none⟩ = some (.slice z.m.eA z.m.ex.length z.m.eC) ∧ W'.cell? ⟨(bd.add (j * 8)).block, (bd.add (j * 8)).off + 5, none⟩ = some (.slice z.m.iA z.m.im.length z.m.iC) ∧ W'.cell? ⟨(bd.add (j * 8)).block, (bd.add (j * 8)).off + 6, none⟩ = some (.slice z.m.pA z.m.pa.length z.m.pC) ∧ W'.cell? ⟨(bd.add (j * 8)).block, (bd.add (j * 8)).off + 7, none⟩ = some (.int .i64 y.first)) → Below wr.heap.size wr W' from fun W' hc => hc.1)
      go_wp2_with fail
      go_region_held3 (fun W' => Below wr.heap.size wr W' ∧ W'.cell? (ad.add (j * 8)) = some (.string y.m.name) ∧ W'.cell? ⟨(ad.add (j * 8)).block, (ad.add (j * 8)).off + 1, none⟩ = some (.int .i64 y.m.major) ∧ W'.cell? ⟨(ad.add (j * 8)).block, (ad.add (j * 8)).off + 2, none⟩ = some (.int .i64 y.m.minor) ∧ W'.cell? ⟨(ad.add (j * 8)).block, (ad.add (j * 8)).off + 3, none⟩ = some (.string y.m.text) ∧ W'.cell? ⟨(ad.add (j * 8)).block, (ad.add (j * 8)).off + 4, none⟩ = some (.slice y.m.eA y.m.ex.length y.m.eC) ∧ W'.cell? ⟨(ad.add (j * 8)).block, (ad.add (j * 8)).off + 5, none⟩ = some (.slice y.m.iA y.m.im.length y.m.iC) ∧ W'.cell? ⟨(ad.add (j * 8)).block, (ad.add (j * 8)).off + 6, none⟩ = some (.slice y.m.pA y.m.pa.length y.m.pC) ∧ W'.cell? ⟨(ad.add (j * 8)).block, (ad.add (j * 8)).off + 7, none⟩ = some (.int .i64 y.first) ∧ W'.cell? (bd.add (j * 8)) = some (.string z.m.name) ∧ W'.cell? ⟨(bd.add (j * 8)).block, (bd.add (j * 8)).off + 1, none⟩ = some (.int .i64 z.m.major) ∧ W'.cell? ⟨(bd.add (j * 8)).block, (bd.add (j * 8)).off + 2, none⟩ = some (.int .i64 z.m.minor) ∧ W'.cell? ⟨(bd.add (j * 8)).block, (bd.add (j * 8)).off + 3, none⟩ = some (.string z.m.text) ∧ W'.cell? ⟨(bd.add (j * 8)).block, (bd.add (j * 8)).off + 4, none⟩ = some (.slice z.m.eA z.m.ex.length z.m.eC) ∧ W'.cell? ⟨(bd.add (j * 8)).block, (bd.add (j * 8)).off + 5, none⟩ = some (.slice z.m.iA z.m.im.length z.m.iC) ∧ W'.cell? ⟨(bd.add (j * 8)).block, (bd.add (j * 8)).off + 6, none⟩ = some (.slice z.m.pA z.m.pa.length z.m.pC) ∧ W'.cell? ⟨(bd.add (j * 8)).block, (bd.add (j * 8)).off + 7, none⟩ = some (.int .i64 y.first)) (first | exact HC0.out | exact HCD.out _ HC0.out | exact HCS.out _ _ (by assumption) (by assumption) | exact HCS.out _ _ HC0.out (by assumption) | exact HCS.out _ _ (HCD.out _ HC0.out) (by assumption) | exact HCS.out _ _ (HCD.out _ (by assumption)) (by assumption) | exact HCD.out _ (by assumption) | exact HCA.out _ _ (by assumption) | exact HCA.out _ _ HC0.out | exact HCA.out _ _ (HCD.out _ HC0.out) | exact HCD.out _ (HCA.out _ _ (by assumption)) | exact HCA.out _ _ (HCS.out _ _ HC0.out (by assumption)) | exact HCA.out _ _ (HCS.out _ _ (HCD.out _ HC0.out) (by assumption)) | exact HCX.out _ _ _ _ (Nat.le_refl _) (by assumption) | exact HCX.out _ _ _ _ (Nat.le_refl _) (HCS.out _ _ (HCA.out _ _ HC0.out) (by assumption)) | exact HCX.out _ _ _ _ (Nat.le_refl _) (HCS.out _ _ (HCD.out _ (HCA.out _ _ HC0.out)) (by assumption)) | assumption) (first | (go_at_call 44; (with_reducible refine (cS.out _ (HB.out.trans ((HCL.out _ (by assumption)).mono HB.out.size))).mono ?_); rintro e w5 ⟨rfl, hb5⟩))
      have HB5 := Lib.hid (HB.out.trans ((HCL.out _ (by assumption)).mono HB.out.size))
      go_wp2_with fail
      go_roundw
      case rel => exact ⟨j + 1, by omega, by go_num, HB5.out⟩
      case measure => (simp [intOf]; try omega)
    · go_wp2_with fail
      go_ret
      exact ⟨rfl, HB.out⟩

set_option maxHeartbeats 4000000 in
set_option maxRecDepth 100000 in
theorem SameRegistry_any (k k' : Krn) (A A' : Option Addr) (c c' : Nat) (l l' : List Plc) (w : World) (hk : k.ok w) (h : PlsOk w A l) (hk' : k'.ok w) (h' : PlsOk w A' l') (hs : k.bare = k'.bare) (hl : bares l = bares l') :
    Calls Tryz.prog 27 #[rgV k A l c, rgV k' A' l' c'] w fun e w' => e = .returned (.bool true) ∧ Below w.heap.size w w' := by
  obtain ⟨mj, mn, ex, eA, eC⟩ := k
  obtain ⟨mj', mn', ex', eA', eC'⟩ := k'
  unfold Krn.bare at hs
  injection hs with h1 h2 h3
  subst h1 h2 h3
  obtain ⟨w0, hw0⟩ : ∃ w0, w0 = w.alloc (.cells #[.int .i64 mj, .int .i64 mn, .slice eA ex.length eC, .slice A l.length c] 39) := ⟨_, rfl⟩
  obtain ⟨g0, g1, g2, g3, hz0, hb0⟩ := box4 hw0
  obtain ⟨x0, hx0⟩ : ∃ x0, x0 = w0.alloc (.cells #[.int .i64 mj, .int .i64 mn, .slice eA' ex.length eC', .slice A' l'.length c'] 39) := ⟨_, rfl⟩
  obtain ⟨f0, f1, f2, f3, hzx, hbx⟩ := box4 hx0
  rw [hz0] at f0 f1 f2 f3
  have k0 := (hbx.cell (p := ⟨w.heap.size, 0, none⟩) (by simp; omega)).trans g0
  have k1 := (hbx.cell (p := ⟨w.heap.size, 1, none⟩) (by simp; omega)).trans g1
  have k2 := (hbx.cell (p := ⟨w.heap.size, 2, none⟩) (by simp; omega)).trans g2
  have k3 := (hbx.cell (p := ⟨w.heap.size, 3, none⟩) (by simp; omega)).trans g3
  have HX := Lib.hid (hb0.trans (hbx.mono hb0.size))
  have hz1 : w.heap.size < x0.heap.size := by omega
  have hz2 : w.heap.size + 1 < x0.heap.size := by omega
  have c1 := Lib.hid (fun W (hb : Below w.heap.size w W) => SameExports_any eA eA' eC eC' ex W ((hk.below hb).ex.1) ((hk'.below hb).ex.1) hk.ex.2.1)
  have c2 := Lib.hid (fun W (hb : Below w.heap.size w W) => SamePlaced_any A A' c c' l l' W (h.below hb) (h'.below hb) hl)
  have hw0' := hw0.symm
  have hx0' := hx0.symm
  clear hw0 hx0 hb0 hbx hk h hk' h' hl hzx g0 g1 g2 g3
  go_enter Tryz.func27, Tryz.ntmps27
  go_wp2_with fail
  refine (c1.out _ HX.out).mono ?_; rintro e w1 ⟨rfl, hb1⟩
  have m3 := (hb1.cell (p := ⟨w.heap.size, 3, none⟩) hz1).trans k3
  have n3 := (hb1.cell (p := ⟨w.heap.size + 1, 3, none⟩) hz2).trans f3
  have HB1 := Lib.hid (HX.out.trans (hb1.mono HX.out.size))
  clear hb1 k0 k1 k2 k3 f0 f1 f2 f3
  go_wp2_with fail
  refine (c2.out _ HB1.out).mono ?_; rintro e w2 ⟨rfl, hb2⟩
  have HB2 := Lib.hid (HB1.out.trans (hb2.mono HB1.out.size))
  clear hb2
  go_wp2_with fail
  go_ret
  exact ⟨by simp, HB2.out⟩

set_option maxHeartbeats 4000000 in
set_option maxRecDepth 100000 in
theorem registryIs_any (E : Int) (k k' : Krn) (A A' : Option Addr) (c c' : Nat) (l l' : List Plc) (w : World) (hk : k.ok w) (h : PlsOk w A l) (hk' : k'.ok w) (h' : PlsOk w A' l') (hs : E = 0 → k.bare = k'.bare ∧ bares l = bares l') (hn : E ≠ 0 → k.bare = noKrn ∧ l = []) :
    Calls Tryz.prog 54 #[rgV k A l c, .int .i64 E, .int .i64 E, rgV k' A' l' c'] w fun e w' => e = .returned (.bool true) ∧ Below w.heap.size w w' := by
  obtain ⟨w0, hw0⟩ : ∃ w0, w0 = w.alloc (.cells #[.int .i64 k.major, .int .i64 k.minor, .slice k.eA k.ex.length k.eC, .slice A l.length c] 39) := ⟨_, rfl⟩
  obtain ⟨g0, g1, g2, g3, hz0, hb0⟩ := box4 hw0
  obtain ⟨x0, hx0⟩ : ∃ x0, x0 = w0.alloc (.cells #[.int .i64 k'.major, .int .i64 k'.minor, .slice k'.eA k'.ex.length k'.eC, .slice A' l'.length c'] 39) := ⟨_, rfl⟩
  obtain ⟨f0, f1, f2, f3, hzx, hbx⟩ := box4 hx0
  rw [hz0] at f0 f1 f2 f3
  have k0 := (hbx.cell (p := ⟨w.heap.size, 0, none⟩) (by simp; omega)).trans g0
  have k1 := (hbx.cell (p := ⟨w.heap.size, 1, none⟩) (by simp; omega)).trans g1
  have k2 := (hbx.cell (p := ⟨w.heap.size, 2, none⟩) (by simp; omega)).trans g2
  have k3 := (hbx.cell (p := ⟨w.heap.size, 3, none⟩) (by simp; omega)).trans g3
  have HX := Lib.hid (hb0.trans (hbx.mono hb0.size))
  have hw0' := hw0.symm
  by_cases t : E = 0
  · obtain ⟨e1, e2⟩ := hs t
    have c1 := Lib.hid (fun W (hb : Below w.heap.size w W) => SameRegistry_any k k' A A' c c' l l' W (hk.below hb) (h.below hb) (hk'.below hb) (h'.below hb) e1 e2)
    have hx0' := hx0.symm
    subst t
    clear hw0 hx0 hb0 hbx hk h hk' h' hzx g0 g1 g2 g3 hs hn e1 e2
    go_enter Tryz.func54, Tryz.ntmps54
    go_wp2_with fail
    refine (c1.out _ HX.out).mono ?_; rintro e w1 ⟨rfl, hb1⟩
    have HB1 := Lib.hid (HX.out.trans (hb1.mono HX.out.size))
    clear hb1
    go_wp2_with fail
    go_ret
    exact ⟨by simp, HB1.out⟩
  · obtain ⟨e1, rfl⟩ := hn t
    have t' : (E != 0) = true := by simp [t]
    obtain ⟨z0, hz⟩ : ∃ z0, z0 = w0.alloc (.cells #[.int .i64 0, .int .i64 0, .slice none 0 0, .slice none 0 0] 39) := ⟨_, rfl⟩
    obtain ⟨n0, n1, n2, n3, hzz, hbz⟩ := box4 hz
    have HZ := Lib.hid (hb0.trans (hbz.mono hb0.size))
    rw [hz0] at n0 n1 n2 n3
    have z0' := (hbz.cell (p := ⟨w.heap.size, 0, none⟩) (by simp; omega)).trans g0
    have z1' := (hbz.cell (p := ⟨w.heap.size, 1, none⟩) (by simp; omega)).trans g1
    have z2' := (hbz.cell (p := ⟨w.heap.size, 2, none⟩) (by simp; omega)).trans g2
    have z3' := (hbz.cell (p := ⟨w.heap.size, 3, none⟩) (by simp; omega)).trans g3
    simp only [List.length_nil] at z3'
    have c1 := Lib.hid (show ∀ W, Below w.heap.size w W → Calls Tryz.prog 27 #[rgV k A [] c, .agg #[.int .i64 0, .int .i64 0, .slice none 0 0, .slice none 0 0]] W fun e w' => e = .returned (.bool true) ∧ Below W.heap.size W w' from
      fun W hb => SameRegistry_any k noKrn A none c 0 [] [] W (hk.below hb) (h.below hb) (noKrn_ok W) ⟨Row.nil, Nat.zero_le _, by simp⟩ e1 rfl)
    have hz' := hz.symm
    have hx0' := Lib.hid hx0.symm
    clear hw0 hx0 hb0 hbx hk h hk' h' hzx g0 g1 g2 g3 hs hn e1 f0 f1 f2 f3 k0 k1 k2 k3 HX hz hbz t
    simp only [List.length_nil] at hw0'
    go_enter Tryz.func54, Tryz.ntmps54
    go_wp2_with fail
    refine (c1.out _ HZ.out).mono ?_; rintro e w1 ⟨rfl, hb1⟩
    have HB1 := Lib.hid (HZ.out.trans (hb1.mono HZ.out.size))
    clear hb1
    go_wp2_with fail
    go_ret
    exact ⟨by simp, HB1.out⟩

end Go.Proofs.YtogckcjcebckgaaGreat
end

section
/- Packing (chapter J): the document's StepOf, PackOf. -/
namespace Go.Proofs.YtogckcjcebckgaaGreat
open Go.RowKit Go.Lib

theorem plcs_ok {W W0 : World} {base : Nat} {A A0 : Option Addr} {c : Nat} {l l0 : List Plc} (h : PlcOwn W base (.slice A l.length c) l) (hm : l.map (·.m) = l0.map (·.m)) (h0 : PlsOk W0 A0 l0) (hb : Below W0.heap.size W0 W) : PlsOk W A l :=
  ⟨Reads.of_own h, by rw [len_mods hm]; exact h0.len, fun x hx => by
    obtain ⟨y, hy, e⟩ := mods_mem hm.symm hx
    rw [← e]; exact (h0.each y hy).below hb⟩

theorem app_own {x1 w3 : World} {l : List Plc} {v' : Value} (hown : w3.ownsRow x1.heap.size 77 8 v' (0 + l.length) ([] ++ l.flatMap Plc.cells)) (hgrow : (x1.alloc (.cells #[] 77)).grownBy w3 (Value.slice (some ⟨x1.heap.size, 0, none⟩) 0 0).ownBlock) :
    ∃ A' c', v' = .slice A' l.length c' ∧ Hid (PlcOwn w3 x1.heap.size (.slice A' l.length c') l) ∧ Below x1.heap.size x1 w3 := by
  obtain ⟨A', c', hv⟩ := own_slice hown
  rw [Nat.zero_add] at hv
  subst hv
  exact ⟨A', c', rfl, Lib.hid (by unfold PlcOwn; simpa using hown), ((Below.refl _ x1).alloc (Nat.le_refl _) _).grown hgrow (by simp) (own_base (World.ownsRow_made x1 #[] 0 (Nat.le_refl _) (Nat.zero_le _) rfl (e := 77) (size := 8)))⟩
theorem rg_kept {x1 w3 : World} {b n : Nat} {v0 v1 v2 v3 : Value} {t : TypeId} (hb : Below n x1 w3) (hn : b < n) (h : x1.heap[b]? = some (.cells #[v0, v1, v2, v3] t (0, 0))) :
    Hid (w3.heap[b]? = some (.cells #[v0, v1, v2, v3] t (0, 0))) ∧ w3.cell? ⟨b, 3, none⟩ = some v3 ∧ w3.frozen? ⟨b, 3, none⟩ = false := by
  have h3 := (hb.block b hn).trans h
  exact ⟨Lib.hid h3, heap_cell h3 3, heap_free h3 3⟩

set_option maxHeartbeats 8000000 in
set_option maxRecDepth 100000 in
theorem StepOf_any (k : Krn) (A : Option Addr) (c : Nat) (l : List Plc) (w : World) (h : PlsOk w A l) (hm : ∀ x ∈ l, modErr x.m = 0) (hr : Row16 0 l) (h8 : l.length ≤ 8) :
    Calls Tryz.prog 249 #[rgV k A l c] w fun e w' => (∃ A' c', e = .returned (.tuple #[rgV k A' ((stepL 0 l).getD l) c', .bool (stepL 0 l).isSome]) ∧ PlcOwn w' w.heap.size (.slice A' l.length c') ((stepL 0 l).getD l)) ∧ Below w.heap.size w w' := by
  obtain ⟨w0, hw0⟩ : ∃ w0, w0 = w.alloc (.cells #[.int .i64 k.major, .int .i64 k.minor, .slice k.eA k.ex.length k.eC, .slice A l.length c] 39) := ⟨_, rfl⟩
  obtain ⟨g0, g1, g2, g3, hz0, hb0⟩ := box4 hw0
  obtain ⟨x0, hx0⟩ : ∃ x0, x0 = w0.alloc (.cells #[.int .i64 0, .int .i64 0, .slice none 0 0, .slice none 0 0] 39) := ⟨_, rfl⟩
  obtain ⟨x1, hx1⟩ : ∃ x1, x1 = x0.alloc (.cells #[.int .i64 k.major, .int .i64 k.minor, .slice k.eA k.ex.length k.eC, .slice A l.length c] 39) := ⟨_, rfl⟩
  have hbx : Below w0.heap.size w0 x0 := hx0 ▸ (Below.refl _ _).alloc (Nat.le_refl _) _
  have hby : Below x0.heap.size x0 x1 := hx1 ▸ (Below.refl _ _).alloc (Nat.le_refl _) _
  have hzx : x0.heap.size = w.heap.size + 2 := by rw [hx0]; simp; omega
  have hzy : x1.heap.size = w.heap.size + 3 := by rw [hx1]; simp; omega
  have hG0 : x0.heap[w.heap.size]? = some (.cells #[.int .i64 k.major, .int .i64 k.minor, .slice k.eA k.ex.length k.eC, .slice A l.length c] 39 (0, 0)) := by rw [hx0, heap_alloc_old w0 _ (by omega), hw0]; exact heap_alloc_new w _
  have hR0 : x0.heap[w.heap.size + 1]? = some (.cells #[.int .i64 0, .int .i64 0, .slice none 0 0, .slice none 0 0] 39 (0, 0)) := by rw [hx0, ← hz0]; exact heap_alloc_new w0 _
  obtain ⟨_, k0, k1, k2, k3, _⟩ := rgcells hG0
  have HR1 := Lib.hid ((hby.block (w.heap.size + 1) (by omega)).trans hR0)
  have hG1 := (hby.block w.heap.size (by omega)).trans hG0
  have HT1 := Lib.hid (show x1.heap[w.heap.size + 2]? = some (.cells #[.int .i64 k.major, .int .i64 k.minor, .slice k.eA k.ex.length k.eC, .slice A l.length c] 39 (0, 0)) by rw [hx1, ← hzx]; exact heap_alloc_new x0 _)
  have n3 : ∀ o, (x1.alloc o).cell? ⟨w.heap.size, 3, none⟩ = some (.slice A l.length c) := fun o => heap_cell ((heap_alloc_old x1 o (by omega)).trans hG1) 3
  have HB1 := Lib.hid ((hb0.trans (hbx.mono hb0.size)).trans (hby.mono (Nat.le_trans hb0.size hbx.size)))
  have HZ1 := Lib.hid hzy
  have HP := Lib.hid h
  have HM := Lib.hid hm
  have H16 := Lib.hid hr
  obtain ⟨i0, hi, hi0, hi1, hi2⟩ := info_parts Tryz.infoPlc
  have hrow : Reads (x1.alloc (.cells #[] 77)) (x1.heap.size + 1) 8 A l.length (l.flatMap Plc.cells) := by
    have := (h.row.below HB1.out).below ((Below.refl _ _).alloc (Nat.le_refl _) (.cells #[] 77))
    unfold Row at this
    simpa using this
  have HROW := Lib.hid hrow
  have HLT := Lib.hid (show w.heap.size + 2 < x1.heap.size by omega)
  have hw0' := hw0.symm
  have hx0' := hx0.symm
  have hx1' := hx1.symm
  obtain ⟨S, hS⟩ : ∃ S, S = stepL 0 l := ⟨_, rfl⟩
  have HS := Lib.hid hS
  rw [← hS]
  clear hw0 hx0 hx1 hb0 hbx hby h hm hr hrow hG0 hR0 hG1 g0 g1 g2 g3 hzy hS
  go_enter Tryz.func249, Tryz.ntmps249
  go_wp2_with (at_builtin; refine wpList_append_any (x1.alloc (.cells #[] 77)) rfl _ _ 37 rfl x1.heap.size 77 i0 zeroPlc 8 128 Tryz.underlying37 hi hi0 hi1 hi2 rfl (by decide) _ _ _ rfl (World.ownsRow_made x1 #[] 0 (Nat.le_refl _) (Nat.zero_le _) rfl) (x1.heap.size + 1) A l.length c (l.flatMap Plc.cells) rfl HROW.out (plc_one l) (by unfold maxLen; omega) (by omega) (by simp) ?_; intro v' w3 hown hgrow _; obtain ⟨A', c', rfl, HO3, hb3⟩ := app_own hown hgrow; obtain ⟨HT3, t3, tf⟩ := rg_kept hb3 HLT.out HT1.out; have HB3 := Lib.hid hb3; clear hown hgrow hb3)
  obtain ⟨w4, hw4⟩ : ∃ w4, w4 = w3.setCell ⟨w.heap.size + 2, 3, none⟩ (.slice A' l.length c') := ⟨_, rfl⟩
  rw [← hw4]
  have ho4 : Only (w.heap.size + 2) w3 w4 := hw4 ▸ Only.set 3 _
  have h4 : w4.heap[w.heap.size + 2]? = some (.cells #[.int .i64 k.major, .int .i64 k.minor, .slice k.eA k.ex.length k.eC, .slice A' l.length c'] 39 (0, 0)) := hw4 ▸ heap_setCell_same w3 (w.heap.size + 2) 3 _ _ (.slice A' l.length c') HT3.out
  have hz1 := HZ1.out
  have hs3 := HB3.out.size
  have HO4 := Lib.hid (own_kp HO3.out (ho4.kp HT3.out (ts := [39]) (by simp)) (by decide))
  have HB4 := Lib.hid (show Below w.heap.size w w4 from (HB1.out.trans (HB3.out.mono (by omega))).trans ((ho4.below (by omega)).mono (by omega)))
  have HR4 := Lib.hid ((ho4.block (w.heap.size + 1) (by omega) (by omega)).trans ((HB3.out.block (w.heap.size + 1) (by omega)).trans HR1.out))
  have HT4 := Lib.hid h4
  have HZ4 := Lib.hid (show w.heap.size + 3 ≤ w4.heap.size from Nat.le_trans (by omega) ho4.size)
  clear hw4 ho4 h4 hz1 hs3 t3 tf
  go_loopw [5, 6] (fun en i wr => ∃ (j : Nat) (a : Int), j ≤ l.length ∧ i = .int .i64 j ∧ en = .int .i64 a ∧ 0 ≤ a ∧ a ≤ 16 ∧ Row16 a (l.drop j) ∧ stepL 0 l = (stepL a (l.drop j)).map (l.take j ++ ·) ∧ Below w4.heap.size w4 wr) (fun _ i _ => l.length - (intOf i).toNat)
  case atStart => exact ⟨0, 0, by omega, rfl, rfl, by omega, by omega, H16.out, by simp, Below.refl _ _⟩
  case round =>
    obtain ⟨j, a, hj, rfl, rfl, ha0, ha16, hr16, hs, hb⟩ := hrel
    have HBR := Lib.hid hb
    have HSJ := Lib.hid hs
    have HR16 := Lib.hid hr16
    have hTr := (hb.block (w.heap.size + 2) (Array.getElem?_eq_some_iff.1 HT4.out).1).trans HT4.out
    obtain ⟨HTR, t0, t1, t2, t3, _⟩ := rgcells hTr
    have hRr := (hb.block (w.heap.size + 1) (Array.getElem?_eq_some_iff.1 HR4.out).1).trans HR4.out
    obtain ⟨HRR, r0, r1, r2, r3, f0, f1, f2, f3⟩ := rgcells hRr
    have HOR := Lib.hid (ownM_below HO4.out hb)
    clear hs hr16 hTr hRr
    by_cases hlt : j < l.length
    · have hlt' : (j : Int) < l.length := by omega
      obtain ⟨g, hA, hg, hgl, _, _, hfr, hset⟩ := PlcOwn.at_ HOR.out hlt
      obtain ⟨ad, hA2, hab, p0, p1, p2, p3, p4, p5, p6, p7⟩ := plc_at (Reads.of_own HOR.out) (Below.refl _ _) j hlt
      rw [hA] at hA2
      obtain rfl := Option.some.inj hA2
      have HSET := Lib.hid hset
      obtain ⟨s1, s2⟩ := step_at hlt HSJ.out
      have hd := HR16.out
      rw [List.drop_eq_getElem_cons hlt] at hd
      obtain ⟨d1, d2, d3, d4⟩ := hd
      have D4 := Lib.hid d4
      have S1 := Lib.hid s1
      have S2 := Lib.hid s2
      have hmt := (modErr_facts (HM.out l[j] (List.getElem_mem _))).2.2.1
      have hd4 := d4.le
      have hAD : (⟨g, 0, none⟩ : Addr).add (j * 8) = ⟨g, j * 8, none⟩ := by
        by_cases h0 : j = 0
        · subst h0; rfl
        · rw [add_pos_ _ _ (by omega)]; simp
      rw [hAD] at p0 p1 p2 p3 p4 p5 p6 p7
      simp only at p0 p1 p2 p3 p4 p5 p6 p7
      subst hA
      obtain ⟨y, hy⟩ : ∃ y, y = l[j]'hlt := ⟨_, rfl⟩
      simp only [← hy] at S1 S2 D4 p0 p1 p2 p3 p4 p5 p6 p7 hmt d1 d2 d3 hd4 HSET
      have cE := Lib.hid (fun W => SizeOf_any y.m W (Nat.le_trans hmt (by unfold big; omega)))
      clear hset s1 s2 hAD hy d4
      by_cases hlf : y.first = a
      · have hnl : ¬ a < y.first := by omega
        have hen : endOf y = a + manyOf y.m := by unfold endOf; omega
        have HEN := Lib.hid hen
        have hnext := Lib.hid (S2.out hnl)
        have hw := IntWalk.i64_in (a + manyOf y.m) (by omega)
        clear S1 S2 hnl hen
        go_wp2_with (go_at_call 121; (with_reducible refine (cE.out _).mono ?_); rintro e w5 ⟨rfl, hb5⟩; have HB5 := Lib.hid (HBR.out.trans (hb5.mono HBR.out.size)); clear hb5)
        go_roundw
        case rel => exact ⟨j + 1, endOf y, by omega, by go_num, by rw [HEN.out], by rw [HEN.out]; omega, hd4, D4.out, hnext.out, HB5.out⟩
        case measure => (simp [intOf]; try omega)
      · have hlt2 : a < y.first := by omega
        have hsome := S1.out hlt2
        have HSO := Lib.hid (show S = _ from HS.out.trans hsome)
        clear hsome S1 S2 hlt2
        go_wp2_with fail
        have hz1 := HZ1.out
        have ho5 : Only g wr (wr.setCell ⟨g, j * 8 + 7, none⟩ (.int .i64 a)) := Only.set _ _
        have hR5 := (ho5.block (w.heap.size + 1) (Array.getElem?_eq_some_iff.1 HRR.out).1 (by omega)).trans HRR.out
        obtain ⟨hg4, ho⟩ := set4 hR5 (.int .i64 k.major) (.int .i64 k.minor) (.slice k.eA k.ex.length k.eC) (.slice (some ⟨g, 0, none⟩) l.length c')
        refine bodyPost_ret (results_cell_tmp rfl _ _ (w.heap.size + 1) 39 _ (0, 0) _ rfl hg4 Tryz.underlying39 rfl Tryz.sizeReg) rfl ?_
        have hown := own_kp (HSET.out a) (ho.kp hR5 (ts := [39]) (by simp)) (by decide)
        have hrv : ∀ (L : List Plc), L.length = l.length → rgV k (some ⟨g, 0, none⟩) L c' = rgV k (some ⟨g, 0, none⟩) l c' := fun L hL => by unfold rgV; rw [hL]
        have hbz := HBR.out.size
        have hz4 := HZ4.out
        rw [HSO.out]
        refine ⟨⟨some ⟨g, 0, none⟩, c', by rw [Option.getD_some, hrv _ (List.length_set ..)]; rfl, ownM_le hown (by omega)⟩, ?_⟩
        exact (HB4.out.trans (HBR.out.mono (by omega))).trans (((ho5.below (by omega)).mono (by omega)).trans ((ho.below (Nat.le_of_lt (Array.getElem?_eq_some_iff.1 hR5).1)).mono (by omega)))
    · obtain rfl : j = l.length := by omega
      have hnone := Lib.hid (show S = none from by rw [HS.out, HSJ.out, List.drop_eq_nil_of_le (Nat.le_refl _)]; rfl)
      clear hb
      go_wp2_with fail
      have hz1 := HZ1.out
      have hbz := HBR.out.size
      have hz4 := HZ4.out
      obtain ⟨hg4, ho⟩ := set4 HRR.out (.int .i64 k.major) (.int .i64 k.minor) (.slice k.eA k.ex.length k.eC) (.slice A' l.length c')
      refine bodyPost_ret (results_cell_tmp rfl _ _ (w.heap.size + 1) 39 _ (0, 0) _ rfl hg4 Tryz.underlying39 rfl Tryz.sizeReg) rfl ?_
      have hown := own_kp HOR.out (ho.kp HRR.out (ts := [39]) (by simp)) (by decide)
      rw [hnone.out]
      refine ⟨⟨A', c', rfl, ownM_le hown (by omega)⟩, ?_⟩
      exact (HB4.out.trans (HBR.out.mono (by omega))).trans ((ho.below (Nat.le_of_lt (Array.getElem?_eq_some_iff.1 HRR.out).1)).mono (by omega))

/-- what the document's packing keeps -/
structure RPackInv (w : World) (k : Krn) (l : List Plc) (q : Nat) (A1 : Option Addr) (L : List Plc) (c1 : Nat) (W : World) : Prop where
  heap : W.heap[w.heap.size]? = some (.cells #[.int .i64 k.major, .int .i64 k.minor, .slice k.eA k.ex.length k.eC, .slice A1 L.length c1] 39 (0, 0))
  res : W.heap[w.heap.size + 1]? = some (.cells #[.int .i64 0, .int .i64 0, .slice none 0 0, .slice none 0 0] 39 (0, 0))
  ok : PlsOk W A1 L
  r16 : Row16 0 L
  same : L.map (·.m) = l.map (·.m)
  pack : packL 0 l = ((packL 0 L).1, (packL 0 L).2 + q)
  bel : Below w.heap.size w W

set_option maxHeartbeats 8000000 in
set_option maxRecDepth 100000 in
theorem PackOf_any (k : Krn) (A : Option Addr) (c : Nat) (l : List Plc) (w : World) (h : PlsOk w A l) (hm : ∀ x ∈ l, modErr x.m = 0) (hr : Row16 0 l) (h8 : l.length ≤ 8) :
    Calls Tryz.prog 218 #[rgV k A l c] w fun e w' => (∃ A' c', e = .returned (.tuple #[rgV k A' (packL 0 l).1 c', .int .i64 (packL 0 l).2]) ∧ PlsOk w' A' (packL 0 l).1) ∧ Below w.heap.size w w' := by
  obtain ⟨w0, hw0⟩ : ∃ w0, w0 = w.alloc (.cells #[.int .i64 k.major, .int .i64 k.minor, .slice k.eA k.ex.length k.eC, .slice A l.length c] 39) := ⟨_, rfl⟩
  obtain ⟨g0, g1, g2, g3, hz0, hb0⟩ := box4 hw0
  obtain ⟨x0, hx0⟩ : ∃ x0, x0 = w0.alloc (.cells #[.int .i64 0, .int .i64 0, .slice none 0 0, .slice none 0 0] 39) := ⟨_, rfl⟩
  have hbx : Below w0.heap.size w0 x0 := hx0 ▸ (Below.refl _ _).alloc (Nat.le_refl _) _
  have hG0 : x0.heap[w.heap.size]? = some (.cells #[.int .i64 k.major, .int .i64 k.minor, .slice k.eA k.ex.length k.eC, .slice A l.length c] 39 (0, 0)) := by rw [hx0, heap_alloc_old w0 _ (by omega), hw0]; exact heap_alloc_new w _
  have hR0 : x0.heap[w.heap.size + 1]? = some (.cells #[.int .i64 0, .int .i64 0, .slice none 0 0, .slice none 0 0] 39 (0, 0)) := by rw [hx0, ← hz0]; exact heap_alloc_new w0 _
  have HB0 := Lib.hid (hb0.trans (hbx.mono hb0.size))
  have HI0 := Lib.hid (show RPackInv w k l 0 A l c x0 from ⟨hG0, hR0, h.below HB0.out, hr, rfl, rfl, HB0.out⟩)
  have HM := Lib.hid hm
  have HLE := Lib.hid (pack_le (l := l) (a := 0))
  have hw0' := hw0.symm
  have hx0' := hx0.symm
  clear hw0 hx0 hb0 hbx h hm hr hG0 hR0 g0 g1 g2 g3
  go_enter Tryz.func218, Tryz.ntmps218
  go_wp2_with fail
  go_loopw [4] (fun n wr => ∃ (q : Nat) (A1 : Option Addr) (L : List Plc) (c1 : Nat), n = .int .i64 q ∧ q ≤ (packL 0 l).2 ∧ RPackInv w k l q A1 L c1 wr) (fun n _ => (packL 0 l).2 + 1 - (intOf n).toNat)
  case atStart => exact ⟨0, A, l, c, rfl, Nat.zero_le _, HI0.out⟩
  case round =>
    obtain ⟨q, A1, L, c1, rfl, hq, hI⟩ := hrel
    have HI := Lib.hid hI
    have hq8 : q ≤ 8 := by have := HLE.out; omega
    have hlen := len_mods hI.same
    have cS := Lib.hid (StepOf_any k A1 c1 L wr hI.ok (fun x hx => by obtain ⟨y, hy, e⟩ := mods_mem hI.same.symm hx; rw [← e]; exact HM.out y hy) hI.r16 (by omega))
    obtain ⟨_, p0, p1, p2, p3, pf0, pf1, pf2, pf3⟩ := rgcells hI.heap
    have hbl := Lib.hid (Array.getElem?_eq_some_iff.1 hI.heap).1
    have HMS := Lib.hid (stepD_mods L 0)
    cases hst : stepL 0 L with
    | none =>
      have HN := Lib.hid (step_none hI.r16 hst)
      rw [hst] at cS
      simp only [Option.getD_none, Option.isSome_none] at cS
      clear hI hst hq hlen
      go_wp2_with fail
      refine (cS.out).mono ?_; rintro e w5 ⟨⟨A5, c5, rfl, ho5⟩, hb5⟩
      obtain ⟨w6, hw6⟩ : ∃ w6, w6 = w5.alloc (.cells #[.int .i64 k.major, .int .i64 k.minor, .slice k.eA k.ex.length k.eC, .slice A5 L.length c5] 39) := ⟨_, rfl⟩
      have hb6 : Below w5.heap.size w5 w6 := hw6 ▸ (Below.refl _ _).alloc (Nat.le_refl _) _
      have h6 : w6.heap[w5.heap.size]? = some (.cells #[.int .i64 k.major, .int .i64 k.minor, .slice k.eA k.ex.length k.eC, .slice A5 L.length c5] 39 (0, 0)) := by rw [hw6]; exact heap_alloc_new w5 _
      have hb56 := hb5.trans (hb6.mono hb5.size)
      have HB6 := Lib.hid (HI.out.bel.trans (hb56.mono HI.out.bel.size))
      have HBW := Lib.hid hb56
      have HO6 := Lib.hid (show PlcOwn w6 wr.heap.size (.slice A5 L.length c5) L from ownM_below ho5 hb6)
      obtain ⟨HP6, a0, a1, a2, a3, b0, b1, b2, b3⟩ := rgcells ((hb56.block w.heap.size hbl.out).trans HI.out.heap)
      obtain ⟨HR6, r0, r1, r2, r3, f0, f1, f2, f3⟩ := rgcells ((hb56.block (w.heap.size + 1) (Array.getElem?_eq_some_iff.1 HI.out.res).1).trans HI.out.res)
      obtain ⟨HX6, x0', x1', x2', x3', _⟩ := rgcells h6
      have hw6' := hw6.symm
      clear hw6 hb6 h6 hb5 ho5 hb56 p0 p1 p2 p3 pf0 pf1 pf2 pf3
      go_wp2_with fail
      obtain ⟨hg4, ho⟩ := set4 HR6.out (.int .i64 k.major) (.int .i64 k.minor) (.slice k.eA k.ex.length k.eC) (.slice A1 L.length c1)
      refine bodyPost_ret (results_cell_tmp rfl _ _ (w.heap.size + 1) 39 _ (0, 0) _ rfl hg4 Tryz.underlying39 rfl Tryz.sizeReg) rfl ?_
      have hpk : packL 0 l = (L, q) := by rw [HI.out.pack, HN.out]; simp
      rw [hpk]
      have hok := PlsOk.other ⟨0, 0, none, 0, 0, none, 0, 0, HR6.out⟩ ho (HI.out.ok.below HBW.out)
      exact ⟨⟨A1, c1, rfl, hok⟩, HB6.out.trans ((ho.below (Nat.le_of_lt (Array.getElem?_eq_some_iff.1 HR6.out).1)).mono (by omega))⟩
    | some L' =>
      obtain ⟨n1, n2⟩ := step_some hI.r16 hst
      have hp := hI.pack
      rw [n2] at hp
      have hle : q + 1 ≤ (packL 0 l).2 := by have e := congrArg Prod.snd hp; simp only at e; omega
      have HPK := Lib.hid (show packL 0 l = ((packL 0 L').1, (packL 0 L').2 + (q + 1)) by rw [hp]; simp; omega)
      have HN1 := Lib.hid n1
      have hLL := step_mods hst
      have HLL := Lib.hid hLL
      have hle2 : L.length = L'.length := by have := len_mods HLL.out; omega
      rw [hst] at cS
      simp only [Option.getD_some, Option.isSome_some] at cS
      rw [hle2] at cS
      have HLE2 := Lib.hid hle2
      clear hI hst hq n1 n2 hp hlen hLL hle2
      go_wp2_with fail
      refine (cS.out).mono ?_; rintro e w5 ⟨⟨A5, c5, rfl, ho5⟩, hb5⟩
      obtain ⟨w6, hw6⟩ : ∃ w6, w6 = w5.alloc (.cells #[.int .i64 k.major, .int .i64 k.minor, .slice k.eA k.ex.length k.eC, .slice A5 L'.length c5] 39) := ⟨_, rfl⟩
      have hb6 : Below w5.heap.size w5 w6 := hw6 ▸ (Below.refl _ _).alloc (Nat.le_refl _) _
      have h6 : w6.heap[w5.heap.size]? = some (.cells #[.int .i64 k.major, .int .i64 k.minor, .slice k.eA k.ex.length k.eC, .slice A5 L'.length c5] 39 (0, 0)) := by rw [hw6]; exact heap_alloc_new w5 _
      have hb56 := hb5.trans (hb6.mono hb5.size)
      have HB6 := Lib.hid (HI.out.bel.trans (hb56.mono HI.out.bel.size))
      have HBW := Lib.hid hb56
      have HO6 := Lib.hid (show PlcOwn w6 wr.heap.size (.slice A5 L'.length c5) L' from ownM_below ho5 hb6)
      obtain ⟨HP6, a0, a1, a2, a3, b0, b1, b2, b3⟩ := rgcells ((hb56.block w.heap.size hbl.out).trans HI.out.heap)
      obtain ⟨HR6, r0, r1, r2, r3, f0, f1, f2, f3⟩ := rgcells ((hb56.block (w.heap.size + 1) (Array.getElem?_eq_some_iff.1 HI.out.res).1).trans HI.out.res)
      obtain ⟨HX6, x0', x1', x2', x3', _⟩ := rgcells h6
      have hw6' := hw6.symm
      clear hw6 hb6 h6 hb5 ho5 hb56 p0 p1 p2 p3 pf0 pf1 pf2 pf3
      go_wp2_with fail
      obtain ⟨hg4, ho⟩ := set4 HP6.out (.int .i64 k.major) (.int .i64 k.minor) (.slice k.eA k.ex.length k.eC) (.slice A5 L'.length c5)
      have hr7 := (ho.block (w.heap.size + 1) (Array.getElem?_eq_some_iff.1 HR6.out).1 (by omega)).trans HR6.out
      have hkp := ho.kp HP6.out (ts := [39]) (by simp)
      have hown := own_kp HO6.out hkp (by decide)
      have hsame : L'.map (·.m) = L.map (·.m) := HLL.out
      have hok6 : PlsOk w6 A5 L' := plcs_ok HO6.out hsame HI.out.ok HBW.out
      have hok := PlsOk.other ⟨_, _, _, _, _, _, _, _, HP6.out⟩ ho hok6
      have hbel := HB6.out.trans (ho.below (Nat.le_of_lt (Array.getElem?_eq_some_iff.1 HP6.out).1))
      have HNEW := Lib.hid (show RPackInv w k l (q + 1) A5 L' c5 _ from ⟨hg4, hr7, hok, HN1.out, hsame.trans HI.out.same, HPK.out, hbel⟩)
      clear hg4 ho hr7 hkp hown hok6 hok hbel
      go_roundw
      case rel => exact ⟨q + 1, A5, L', c5, by go_num, hle, HNEW.out⟩
      case measure => (simp [intOf]; try omega)

end Go.Proofs.YtogckcjcebckgaaGreat
end

section
/- compactBegun returns true. -/
namespace Go.Proofs.YtogckcjcebckgaaGreat
open Go.RowKit Go.Lib

theorem RgIs.okAll {W W0 : World} {base : Nat} {k K : Krn} {A A0 : Option Addr} {l L L0 : List Plc} {c : Nat} (h : RgIs W base k A l c K L) (hK : K.ok W0) (hL : PlsOk W0 A0 L0) (hm : L.map (·.m) = L0.map (·.m)) : k.ok W ∧ PlsOk W A l := by
  refine ⟨h.own.okK h.kern hK, h.own.mods.ok rfl ?_ hL⟩
  have e1 : l.map (fun x => x.m.bare) = (bares l).map (·.m) := by rw [List.map_map]; rfl
  have e2 : L0.map (fun x => x.m.bare) = (L0.map (·.m)).map Mod.bare := by rw [List.map_map]; rfl
  rw [e1, h.mods, e2, ← hm, List.map_map, List.map_map]; rfl
theorem wL_mods {E : Int} {L L0 : List Plc} (h : E = 0) (hm : L.map (·.m) = L0.map (·.m)) : (wL E L).map (·.m) = L0.map (·.m) := by subst h; exact hm
theorem two_of {l : List Plc} {m1 m2 : Mod} {f1 f2 : Int} (h : bares l = bares [⟨m1, f1⟩, ⟨m2, f2⟩]) : ∃ x y, l = [x, y] ∧ x.first = f1 ∧ y.first = f2 := by
  have hl := len_like h
  obtain ⟨x, y, rfl⟩ : ∃ x y, l = [x, y] := by
    match l, hl with | [x, y], _ => exact ⟨x, y, rfl⟩
  refine ⟨x, y, rfl, ?_, ?_⟩
  · have := congrArg (fun z : List Plc => (z[0]?).map Plc.first) h; simpa [bares, Plc.bare] using this
  · have := congrArg (fun z : List Plc => (z[1]?).map Plc.first) h; simpa [bares, Plc.bare] using this
section
variable (a1 a2 a3 b1 b2 b3 : Option Addr) (a4 a5 a6 b4 b5 b6 : Nat)
theorem cb_step : stepL 0 (pairB a1 a2 a3 b1 b2 b3 a4 a5 a6 b4 b5 b6) = some [⟨appM a1 a2 a3 a4 a5 a6, 0⟩, ⟨libM b1 b2 b3 b4 b5 b6, 4⟩] := by kernel_rfl
theorem cb_pack : packL 0 (pairB a1 a2 a3 b1 b2 b3 a4 a5 a6 b4 b5 b6) = ([⟨appM a1 a2 a3 a4 a5 a6, 0⟩, ⟨libM b1 b2 b3 b4 b5 b6, 1⟩], 2) := by kernel_rfl
end

set_option maxHeartbeats 4000000 in
set_option maxRecDepth 100000 in
theorem compactBegun_any (w : World) : Calls Tryz.prog 40 #[] w fun e w' => e = .returned (.bool true) ∧ Below w.heap.size w w' := by
  go_enter Tryz.func40, Tryz.ntmps40
  go_wp2_with fail
  refine (reg_any _).mono ?_; rintro e w1 ⟨⟨A1, c1, A2, c2, a1, a2, a3, a4, a5, a6, b1, b2, b3, b4, b5, b6, rfl, hk1, hl1⟩, hb1⟩
  have f1 := Lib.hid (CStep_any (kern A1 c1) A2 c2 (pairB a1 a2 a3 b1 b2 b3 a4 a5 a6 b4 b5 b6) w1 hk1 hl1)
  rw [rb_rg, cb_step] at f1
  have HB1 := Lib.hid hb1
  clear hk1 hl1 hb1
  go_wp2_with fail
  refine (f1.out).mono ?_; rintro e w2 ⟨⟨k2, A2', l2, c2', rfl, hrg⟩, hb2⟩
  obtain ⟨x, y, rfl, hx, hy⟩ := two_of hrg.mods
  obtain ⟨g, hA2, _⟩ := PlcOwn.at_ (l := [x, y]) hrg.own.mods.row (j := 0) (by simp)
  subst hA2
  have hrow := Reads.of_own hrg.own.mods.row
  have HROW := Lib.hid (show Row Plc.cells 8 w2 (some ⟨g, 0, none⟩) [x, y] from hrow)
  obtain ⟨w3, hw3⟩ : ∃ w3, w3 = w2.alloc (.cells #[.int .i64 k2.major, .int .i64 k2.minor, .slice k2.eA k2.ex.length k2.eC, .slice (some ⟨g, 0, none⟩) 2 c2'] 39) := ⟨_, rfl⟩
  have hb3 : Below w2.heap.size w2 w3 := hw3 ▸ (Below.refl _ _).alloc (Nat.le_refl _) _
  have H3 := Lib.hid (show w3.heap[w2.heap.size]? = some (.cells #[.int .i64 k2.major, .int .i64 k2.minor, .slice k2.eA k2.ex.length k2.eC, .slice (some ⟨g, 0, none⟩) 2 c2'] 39 (0, 0)) by rw [hw3]; exact heap_alloc_new w2 _)
  have HB3 := Lib.hid ((HB1.out.trans (hb2.mono HB1.out.size)).trans (hb3.mono (Nat.le_trans HB1.out.size hb2.size)))
  have HL3 := Lib.hid hb3
  have hw3' := hw3.symm
  clear hrg hb2 hrow hw3 hb3 f1
  go_wp2_with fail
  refine (reg_any _).mono ?_; rintro e w4 ⟨⟨A3, c3, A4, c4, d1, d2, d3, d4, d5, d6, g1, g2, g3, g4, g5, g6, rfl, hk4, hl4⟩, hb4⟩
  have f2 := Lib.hid (CPack_any (kern A3 c3) A4 c4 (pairB d1 d2 d3 g1 g2 g3 d4 d5 d6 g4 g5 g6) w4 hk4 hl4)
  rw [rb_rg, cb_pack] at f2
  have HB4 := Lib.hid (HB3.out.trans (hb4.mono HB3.out.size))
  have HL4 := Lib.hid (HL3.out.trans (hb4.mono HL3.out.size))
  have H4 := Lib.hid ((hb4.block w2.heap.size (Array.getElem?_eq_some_iff.1 H3.out).1).trans H3.out)
  clear hk4 hl4 hb4
  go_wp2_with fail
  refine (f2.out).mono ?_; rintro e w5 ⟨⟨n, k5, A5, l5, c5, rfl, hn, hrg⟩, hb5⟩
  obtain ⟨u, v, rfl, hu, hv⟩ := two_of hrg.mods
  have hn2 : n = 2 := by simpa using hn
  subst hn2
  obtain ⟨g5, hA5, _⟩ := PlcOwn.at_ (l := [u, v]) hrg.own.mods.row (j := 0) (by simp)
  subst hA5
  have hrow : Row Plc.cells 8 w5 (some ⟨g5, 0, none⟩) [u, v] := Reads.of_own hrg.own.mods.row
  obtain ⟨w6, hw6⟩ : ∃ w6, w6 = w5.alloc (.cells #[.int .i64 k5.major, .int .i64 k5.minor, .slice k5.eA k5.ex.length k5.eC, .slice (some ⟨g5, 0, none⟩) 2 c5] 39) := ⟨_, rfl⟩
  have hb6 : Below w5.heap.size w5 w6 := hw6 ▸ (Below.refl _ _).alloc (Nat.le_refl _) _
  have hb56 := hb5.trans (hb6.mono hb5.size)
  have HB6 := Lib.hid (HB4.out.trans (hb56.mono HB4.out.size))
  obtain ⟨_, _, _, _, p3, _⟩ := rgcells ((hb56.block w2.heap.size (Array.getElem?_eq_some_iff.1 H4.out).1).trans H4.out)
  have h6 : w6.heap[w5.heap.size]? = some (.cells #[.int .i64 k5.major, .int .i64 k5.minor, .slice k5.eA k5.ex.length k5.eC, .slice (some ⟨g5, 0, none⟩) 2 c5] 39 (0, 0)) := by rw [hw6]; exact heap_alloc_new w5 _
  obtain ⟨_, _, _, _, q3, _⟩ := rgcells h6
  obtain ⟨_, ea, _, _, _, _, _, _, _, _, m7⟩ := plc_at HROW.out (HL4.out.trans (hb56.mono HL4.out.size)) 0 (by simp)
  obtain rfl := Option.some.inj ea
  obtain ⟨_, ea, _, _, _, _, _, _, _, _, n7⟩ := plc_at HROW.out (HL4.out.trans (hb56.mono HL4.out.size)) 1 (by simp)
  obtain rfl := Option.some.inj ea
  obtain ⟨_, ea, _, _, _, _, _, _, _, _, o7⟩ := plc_at hrow hb6 1 (by simp)
  obtain rfl := Option.some.inj ea
  simp only [List.getElem_cons_zero, List.getElem_cons_succ, hx, hy, hv] at m7 n7 o7
  simp [Addr.add] at m7 n7 o7
  have hw6' := hw6.symm
  clear hrg hn hb5 hrow hw6 hb6 hb56 h6 f2
  go_wp2_with fail
  go_ret
  exact ⟨by simp, HB6.out⟩

end Go.Proofs.YtogckcjcebckgaaGreat
end
