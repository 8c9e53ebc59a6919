import Derived.Test.YtjnfemcfohflnaaLinkMove
import Derived.Test.YtjnfemcfohflnaaLinkLone
import Derived.Test.YtjnfemcfohflnaaLinkBegun
import Derived.Test.YtjnfemcfohflnaaOpen
/- LinkMoved: bytes that no patch touches are those of the text; in the area each image lies where it is placed, bytes 255 elsewhere. No condition. -/
namespace Go.Proofs.Ytjnfemcfohflnaa
open Go.ChangeShapes Go.WideShapes Go.ChangeAt Go.RowKit Go.WideMaps Go.WideElems Go.Deep
open Go.ChangeMaps (setBlock shut_map_nil open_string shut_string keptBut_setBlock frozen?_setBlock heap_setBlock_same)
open Gs (Tx)

theorem quiet_to {P : Program} {f : FuncId} {args : Array Value} {v : Value} {w : World} {n : Nat}
    (h : Calls P f args (w.drewN n) fun e w' => e = .returned v ∧ w.drewN n = w') : Calls P f args (w.drewN n) fun e w'' => e = .returned v ∧ ∃ m, w'' = w.drewN m :=
  h.mono fun _ _ ⟨he, hq⟩ => ⟨he, n, hq.symm⟩
theorem any_take {α : Type} (f : α → Bool) {l : List α} {p : Nat} (h : p < l.length) : (l.take (p + 1)).any f = ((l.take p).any f || f l[p]) := by
  rw [List.take_succ_eq_append_getElem h, List.any_append]; simp
theorem own_image {k : Krn} {l : List Plc} (h : linkErr k l = 0) {j : Nat} (hj : j < l.length) : imageErr k l l[j].m.name = (imgOf k l l[j]).2 ∧ imageT k l l[j].m.name = (imgOf k l l[j]).1 := by
  unfold imageErr imageT
  rw [if_neg (by omega), if_neg (by omega), find_own (linkErr_ok h).2.2.1 hj]
  exact ⟨rfl, rfl⟩
theorem bs_part {T G : Tx} {d : Nat} (h : (T.drop d).take G.length = G) : (bs T).extract d (d + G.length) = bs G := by
  refine ba_eq ?_
  have : ((bs T).extract d (d + G.length)).data.toList = (T.drop d).take G.length := by
    rw [ByteArray.data_extract, Array.toList_extract]
    show List.extract T d (d + G.length) = _
    rw [List.extract_eq_take_drop, Nat.add_sub_cancel_left]
  rw [this, h]
/-- a block of N bools that reads as u -/
def BitsN (N : Nat) (w : World) (b : Nat) (u : Nat → Bool) : Prop := ∀ k, k < N → w.cell? ⟨b, k, none⟩ = some (.bool (u k)) ∧ w.frozen? ⟨b, k, none⟩ = false
section
variable {N : Nat} {w w' : World} {b B : Nat} {u u' : Nat → Bool}
theorem BitsN.below (h : BitsN N w b u) (hb : Below B w w') (hB : b < B) : BitsN N w' b u := fun k hk => ⟨(hb.cell (p := ⟨b, k, none⟩) hB).trans (h k hk).1, (hb.frozen (p := ⟨b, k, none⟩) hB).trans (h k hk).2⟩
theorem BitsN.congr (h : BitsN N w b u) (e : ∀ k, k < N → u k = u' k) : BitsN N w b u' := fun k hk => by rw [← e k hk]; exact h k hk
theorem BitsN.set (h : BitsN N w b u) (i : Nat) (hi : i < N) (v : Bool) : BitsN N (w.setCell ⟨b, i, none⟩ (.bool v)) b (fun k => if k = i then v else u k) := fun k hk => by
  refine ⟨?_, by rw [World.frozen?_setCell]; exact (h k hk).2⟩
  by_cases e : k = i
  · subst e
    simp only [if_pos]
    exact World.cell?_setCell_same' _ _ _ (by rw [(h k hk).1]; rfl)
  · simp only [if_neg e]
    rw [World.cell?_setCell_other _ _ _ _ (by intro h2; injection h2 with _ h3 _; exact e h3.symm)]
    exact (h k hk).1
end
theorem zero_bits : Try.zeroCells30 = Array.replicate 1024 (.bool false) := by kernel_rfl
theorem bitsN_zero (w : World) (t : TypeId) : BitsN 1024 (w.alloc (.cells (Array.replicate 1024 (.bool false)) t)) w.heap.size (fun _ => false) := fun k hk => by
  refine ⟨?_, frozen_of_row _ _ _ _ _ (heap_alloc_new w _)⟩
  rw [World.cell?_alloc_new]
  show (Array.replicate 1024 (Value.bool false))[k]? = _
  rw [Array.getElem?_replicate, if_pos hk]
/-- which bytes of the area belong to one of these -/
def usedB (l : List Plc) (n : Nat) : Bool := l.any fun x => decide (64 * x.first ≤ n) && decide ((n : Int) < 64 * endOf x)
def usedQ (l : List Plc) (j q : Nat) (n : Nat) : Bool := if h : j < l.length then usedB (l.take j) n || (decide (64 * l[j].first ≤ n) && decide ((n : Int) < 64 * l[j].first + q)) else usedB l n
theorem usedQ_zero {l : List Plc} {j : Nat} (h : j < l.length) (n : Nat) : usedQ l j 0 n = usedB (l.take j) n := by
  unfold usedQ; rw [dif_pos h]
  have : (decide (64 * l[j].first ≤ (n : Int)) && decide ((n : Int) < 64 * l[j].first + (0 : Nat))) = false := by
    rw [Bool.and_eq_false_iff, decide_eq_false_iff_not, decide_eq_false_iff_not]; omega
  rw [this, Bool.or_false]
theorem usedQ_full {l : List Plc} {j q : Nat} (h : j < l.length) (hq : (q : Int) = 64 * manyOf l[j].m) (n : Nat) : usedQ l j q n = usedB (l.take (j + 1)) n := by
  unfold usedQ; rw [dif_pos h]
  unfold usedB
  rw [List.take_succ_eq_append_getElem h, List.any_append, List.any_cons, List.any_nil, Bool.or_false]
  congr 2
  have : endOf l[j] = l[j].first + manyOf l[j].m := rfl
  congr 1
  rw [this, hq]
  exact propext ⟨fun _ => by omega, fun _ => by omega⟩
theorem usedQ_step {l : List Plc} {j q : Nat} (h : j < l.length) (i : Nat) (hi : (i : Int) = 64 * l[j].first + q) (n : Nat) : (if n = i then true else usedQ l j q n) = usedQ l j (q + 1) n := by
  unfold usedQ
  rw [dif_pos h, dif_pos h]
  by_cases e : n = i
  · rw [if_pos e]
    have : (decide (64 * l[j].first ≤ (n : Int)) && decide ((n : Int) < 64 * l[j].first + ((q + 1 : Nat) : Int))) = true := by
      rw [Bool.and_eq_true, decide_eq_true_eq, decide_eq_true_eq]; omega
    rw [this, Bool.or_true]
  · rw [if_neg e]
    have : decide ((n : Int) < 64 * l[j].first + (q : Int)) = decide ((n : Int) < 64 * l[j].first + ((q + 1 : Nat) : Int)) := by
      by_cases e2 : (n : Int) < 64 * l[j].first + (q : Int)
      · rw [decide_eq_true e2, decide_eq_true (by omega)]
      · rw [decide_eq_false e2, decide_eq_false (by omega)]
    rw [this]

set_option maxRecDepth 100000 in
set_option maxHeartbeats 8000000 in
theorem LinkMoved_any (k : Krn) (A : Option Addr) (l : List Plc) (c : Nat) (w : World) (hk : k.ok w) (h : PlsOk w A l) :
    Calls Try.prog 3 #[k.v, .slice A l.length c] w fun e w' => e = .returned (.bool true) ∧ Below w.heap.size w w' := by
  obtain ⟨w0, hw0⟩ : ∃ w0, w0 = w.alloc (.cells #[.int .i64 k.major, .int .i64 k.minor, .slice k.eA k.ex.length k.eC] 24) := ⟨_, rfl⟩
  obtain ⟨g0, g1, g2, hz, hb0⟩ := box3 hw0
  have hz0 : w.heap.size < w0.heap.size := by omega
  have H0 := Lib.hid hb0
  have hw0' := hw0.symm
  have HP := Lib.hid h
  have HK := Lib.hid hk
  have hl := h.len
  unfold big at hl
  have c1 := Lib.hid (Area_any k A c l)
  have hT0 : areaErr k l ≠ 0 → areaT k l = [] := fun e => by
    unfold areaT
    unfold areaErr at e
    by_cases e1 : linkErr k l = 0
    · rw [if_neg (by omega)] at e ⊢; exact areaGo_bad e
    · rw [if_pos e1]
  have hT1 : areaErr k l = 0 → linkErr k l = 0 ∧ areaGo k l l 0 = (areaT k l, 0) := fun e => by
    unfold areaT
    unfold areaErr at e
    by_cases e1 : linkErr k l = 0
    · rw [if_neg (by omega)] at e
      refine ⟨e1, ?_⟩
      rw [if_neg (by omega)]
      exact Prod.ext rfl e
    · rw [if_pos e1] at e; omega
  obtain ⟨T, hT⟩ : ∃ T, T = areaT k l := ⟨_, rfl⟩
  obtain ⟨E, hE⟩ : ∃ E, E = areaErr k l := ⟨_, rfl⟩
  simp only [← hT, ← hE] at c1 hT0 hT1
  have HT1 := Lib.hid hT1
  have hbs : bs [] = ⟨#[]⟩ := rfl
  clear hw0 hb0 hz h hk hT hE hT1
  by_cases tE : E = 0
  · subst tE
    obtain ⟨hL, hG⟩ := HT1.out rfl
    obtain ⟨a1, a2, a3⟩ := area_law hG (reg_row (linkErr_ok hL).2.1).2.2
    have a1' : T.length = 1024 := by omega
    have hTs : (bs T).size = 1024 := a1'
    have A2 := Lib.hid a2
    have A3 := Lib.hid a3
    have HLK := Lib.hid hL
    have HTL := Lib.hid a1'
    clear hG a1 a2 a3 a1' hL hT0 hbs HT1
    go_enter Try.func3, Try.ntmps3
    go_wp2_with (first
      | (go_at_call 4; (with_reducible refine (c1.out w0 (HK.out.below H0.out) (HP.out.below H0.out)).mono ?_); rintro e w1 ⟨rfl, hb1⟩
         have HB1 := Lib.hid (H0.out.trans (hb1.mono (by omega)))
         have k0 := (hb1.cell (p := ⟨w.heap.size, 0, none⟩) hz0).trans g0
         have k1 := (hb1.cell (p := ⟨w.heap.size, 1, none⟩) hz0).trans g1
         have k2 := (hb1.cell (p := ⟨w.heap.size, 2, none⟩) hz0).trans g2
         have HKC := Lib.hid (And.intro k0 (And.intro k1 k2))
         have hz1 : w.heap.size < w1.heap.size := (by have := hb1.size; omega)
         clear hb1 k0 k1 k2)
      | (go_at_call 5; (with_reducible refine (linkBegun_any _).mono ?_); rintro e w2 ⟨rfl, hb2⟩
         have HB2 := Lib.hid (HB1.out.trans (hb2.mono HB1.out.size))
         have k0 := (hb2.cell (p := ⟨w.heap.size, 0, none⟩) hz1).trans HKC.out.1
         have k1 := (hb2.cell (p := ⟨w.heap.size, 1, none⟩) hz1).trans HKC.out.2.1
         have k2 := (hb2.cell (p := ⟨w.heap.size, 2, none⟩) hz1).trans HKC.out.2.2
         have HKD := Lib.hid (And.intro k0 (And.intro k1 k2))
         have hz2 : w.heap.size < w2.heap.size := (by have := hb2.size; omega)
         clear hb2 k0 k1 k2))
    obtain ⟨wa, hwa⟩ : ∃ wa, wa = w2.alloc (.cells Try.zeroCells30 30) := ⟨_, rfl⟩
    rw [← hwa]
    have hba : Below w2.heap.size w2 wa := by rw [hwa]; exact (Below.refl _ _).alloc (Nat.le_refl _) _
    have hsa : w2.heap.size < wa.heap.size := by rw [hwa]; simp
    have HBI := Lib.hid (show BitsN 1024 wa w2.heap.size (usedB (l.take 0)) by rw [hwa, zero_bits]; exact bitsN_zero w2 _)
    have HBA := Lib.hid hba
    clear hwa hba
    go_loopw [8] (fun i wr => ∃ j : Nat, j ≤ l.length ∧ i = .int .i64 j ∧ BitsN 1024 wr w2.heap.size (usedB (l.take j)) ∧ w2.heap.size < wr.heap.size ∧ Below w2.heap.size w2 wr) (fun i _ => l.length - (intOf i).toNat)
    case atStart => exact ⟨0, by omega, rfl, HBI.out, hsa, HBA.out⟩
    case round =>
      obtain ⟨j, hj, rfl, hbits, hsr, hb⟩ := hrel
      have HB := Lib.hid hb
      have HBT := Lib.hid hbits
      clear hbits
      by_cases hlt : j < l.length
      · have hlt' : (j : Int) < l.length := by omega
        obtain ⟨q1, q2, q3⟩ := plc_link HLK.out l[j] (List.getElem_mem _)
        have r1 := (row16_first (reg_row (linkErr_ok HLK.out).2.1).2.2 l[j] (List.getElem_mem _)).2
        obtain ⟨s1, s2⟩ := own_image HLK.out hlt
        obtain ⟨x1, d, x2, x3⟩ := A2.out l[j] (List.getElem_mem _)
        have x4 := imgOf_length x1
        have IA := Lib.hid (fun i => img_at (k := k) (l := l) (x := l[j]'hlt) x1 i)
        have hbw := HB2.out.trans (hb.mono HB2.out.size)
        have cI := Lib.hid (fun W (hW : Below w.heap.size w W) => Image_any k A c l (l[j]'hlt).m.name W (HK.out.below hW) (HP.out.below hW))
        rw [s1, s2, x1] at cI
        obtain ⟨ad, rfl, hab, f0, f1, f2, f3, f4, f5, f6, f7⟩ := plc_at HP.out.row hbw j hlt
        have KJ := Lib.hid (fun W (hbW : Below w.heap.size w W) => plc_at HP.out.row hbW j hlt)
        have hmo := HP.out.each l[j] (List.getElem_mem _)
        have ht := (modErr_facts q1).2.2.1
        have hpl := (modErr_facts q1).2.2.2.2.2.2.2.1
        have hpi := mod_in q1
        have hen : endOf l[j] = l[j].first + manyOf l[j].m := rfl
        obtain ⟨mt1, mt2, mt3⟩ := many_text l[j].m
        have UQ0 := Lib.hid (usedQ_zero hlt)
        have UQ1 := Lib.hid (fun q hq => usedQ_full (q := q) hlt hq)
        have UQ2 := Lib.hid (fun q i hi => usedQ_step (q := q) hlt i hi)
        obtain ⟨G, hG⟩ : ∃ G, G = (imgOf k l l[j]).1 := ⟨_, rfl⟩
        simp only [← hG] at cI IA x3 x4
        obtain ⟨y, hy⟩ : ∃ y, y = l[j]'hlt := ⟨_, rfl⟩
        simp only [← hy] at cI IA x2 x4 f0 f1 f2 f3 f4 f5 f6 f7 KJ hmo ht hpl hpi hen mt1 mt2 mt3 UQ1 UQ2 q2 q3 r1
        have hdz : y.first * 64 = d := by omega
        have hdG : d + G.length ≤ 1024 := by omega
        have hXP := bs_part x3
        have hGs : (bs G).size = G.length := rfl
        have hGt : y.m.text.size ≤ G.length := by omega
        have hd0 : decide ((d : Int) < 0) = false := decide_eq_false (by omega)
        have hd1 : decide ((1024 : Int) < d + G.length) = false := decide_eq_false (by omega)
        have hd2 : decide (G.length < y.m.text.size) = false := decide_eq_false (by omega)
        have hd3 : decide ((G.length : Int) < y.m.text.size) = false := decide_eq_false (by omega)
        have hXX : (bs T).extract d (d + G.length) = bs G := hXP
        have n0 := (hb.cell (p := ⟨w.heap.size, 0, none⟩) hz2).trans HKD.out.1
        have n1 := (hb.cell (p := ⟨w.heap.size, 1, none⟩) hz2).trans HKD.out.2.1
        have n2 := (hb.cell (p := ⟨w.heap.size, 2, none⟩) hz2).trans HKD.out.2.2
        have hzr : w.heap.size < wr.heap.size := by omega
        obtain ⟨wq, hwq⟩ : ∃ wq, wq = wr.alloc (.cells #[.string y.m.name, .int .i64 y.m.major, .int .i64 y.m.minor, .string y.m.text, .slice y.m.eA y.m.ex.length y.m.eC, .slice y.m.iA y.m.im.length y.m.iC, .slice y.m.pA y.m.pa.length y.m.pC] 34) := ⟨_, rfl⟩
        obtain ⟨y0, y1, y2, y3, y4, y5, y6, hzq, hbq⟩ := box7 hwq
        have hwq' := hwq.symm
        have hwz : wr.heap.size < wq.heap.size := by omega
        have p0 := (hbq.cell (p := ⟨w.heap.size, 0, none⟩) hzr).trans n0
        have p1 := (hbq.cell (p := ⟨w.heap.size, 1, none⟩) hzr).trans n1
        have p2 := (hbq.cell (p := ⟨w.heap.size, 2, none⟩) hzr).trans n2
        have HBQ := Lib.hid hbq
        have HBWQ := Lib.hid (hbw.trans (hbq.mono hbw.size))
        have HMO := Lib.hid hmo
        have HPI := Lib.hid hpi
        have HX3 := Lib.hid x3
        have HX4 := Lib.hid x4
        have HGs := Lib.hid hGs
        clear hwq hzq hbq hbw hb hG hy q1 s1 s2 x1 x2 x3 x4 hmo hpi hen hXP hGs mt1 mt2 mt3 n0 n1 n2
        go_wp2_with (first
          | (go_at_call 6; (with_reducible refine (cI.out _ HBWQ.out).mono ?_); rintro e w5 ⟨rfl, hb5⟩
             have HB5 := Lib.hid hb5
             have HBW5 := Lib.hid (HBWQ.out.trans (hb5.mono HBWQ.out.size))
             have z3 := (hb5.cell (p := ⟨wr.heap.size, 3, none⟩) hwz).trans y3
             have z6 := (hb5.cell (p := ⟨wr.heap.size, 6, none⟩) hwz).trans y6
             have hz5 := hb5.size
             obtain ⟨_, ea, _, m0, m1, m2, m3, m4, m5, m6, m7⟩ := KJ.out _ HBW5.out
             obtain rfl := Option.some.inj ea
             clear hb5))
        have hzw5 : wr.heap.size < w5.heap.size := by omega
        clear hXX
        have HBits5 := Lib.hid (show BitsN 1024 w5 w2.heap.size (usedQ l j 0) from BitsN.congr ((HBT.out.below HBQ.out hsr).below HB5.out (by omega)) fun n _ => (UQ0.out n).symm)
        have HB25 := Lib.hid (HB.out.trans ((HBQ.out.mono (by omega)).trans (HB5.out.mono (by omega))))
        have HZ3 := Lib.hid z3
        have HZ6 := Lib.hid z6
        clear m0 m1 m2 m3 m4 m5 m6 m7 f0 f1 f2 f3 f4 f5 f6 f7 p0 p1 p2 y0 y1 y2 y3 y4 y5 y6 z3 z6
        obtain ⟨wv, hwv⟩ : ∃ wv, wv = wr := ⟨_, rfl⟩
        subst hwv
        go_loopw [13] (fun i wz => ∃ q : Nat, q ≤ G.length ∧ i = .int .i64 q ∧ BitsN 1024 wz w2.heap.size (usedQ l j q) ∧ wz.cell? ⟨wv.heap.size, 3, none⟩ = some (.string y.m.text) ∧ wz.cell? ⟨wv.heap.size, 6, none⟩ = some (.slice y.m.pA y.m.pa.length y.m.pC) ∧ wv.heap.size < wz.heap.size ∧ Below w2.heap.size w2 wz) (fun i _ => G.length - (intOf i).toNat)
        case atStart => exact ⟨0, by omega, rfl, HBits5.out, HZ3.out, HZ6.out, hzw5, HB25.out⟩
        case round =>
          obtain ⟨q, hq, rfl, hqb, z3, z6, hzz, hbz⟩ := hrel
          have HQB := Lib.hid hqb
          have HBZ := Lib.hid hbz
          clear hqb
          by_cases hlq : q < G.length
          · have hlq' : (q : Int) < G.length := by omega
            have hkk : d + q < 1024 := by omega
            have hkk' : (d : Int) + q < 1024 := by omega
            obtain ⟨u0, u1⟩ := HQB.out (d + q) hkk
            obtain ⟨wy, hwy⟩ : ∃ wy, wy = wr.setCell ⟨w2.heap.size, d + q, none⟩ (.bool true) := ⟨_, rfl⟩
            have hwy' := hwy.symm
            have v3 : wy.cell? ⟨wv.heap.size, 3, none⟩ = some (.string y.m.text) := by rw [hwy, World.cell?_setCell_other _ _ _ _ (by intro h2; injection h2 with h3 _ _; omega)]; exact z3
            have v6 : wy.cell? ⟨wv.heap.size, 6, none⟩ = some (.slice y.m.pA y.m.pa.length y.m.pC) := by rw [hwy, World.cell?_setCell_other _ _ _ _ (by intro h2; injection h2 with h3 _ _; omega)]; exact z6
            have HYB := Lib.hid (show BitsN 1024 wy w2.heap.size (usedQ l j (q + 1)) from BitsN.congr (hwy ▸ HQB.out.set (d + q) hkk true) fun n _ => UQ2.out q (d + q) (by omega) n)
            have HYW := Lib.hid (show Below w2.heap.size w2 wy from hwy ▸ hbz.setCell (p := ⟨w2.heap.size, d + q, none⟩) (Nat.le_refl _) _)
            have hsy : wv.heap.size < wy.heap.size := by rw [hwy]; simpa using hzz
            have hqs : q < (bs G).size := by rw [HGs.out]; exact hlq
            have hgq : G[q]? = some ((bs G)[q]) := List.getElem?_eq_getElem hlq
            obtain ⟨i1, i2⟩ := IA.out q
            have HV := Lib.hid (And.intro v3 v6)
            clear hbz z3 z6 hwy
            by_cases htq : y.m.text.size ≤ q
            · have h255 : (bs G)[q] = 255 := i2 htq _ hgq
              have htq' : (y.m.text.size : Int) ≤ q := by omega
              clear i1 i2 hgq
              go_wp2_with fail
              go_roundw
              case rel => exact ⟨q + 1, by omega, by go_num, HYB.out, HV.out.1, HV.out.2, hsy, HYW.out⟩
              case measure => (simp [intOf]; try omega)
            · have htq' : decide ((y.m.text.size : Int) ≤ q) = false := decide_eq_false (by omega)
              have HPR := Lib.hid (show Row Pat.cells 4 w y.m.pA y.m.pa from HMO.out.pa.1)
              have I1 := Lib.hid (fun e => hgq.symm.trans (i1 (by omega) e))
              clear i1 i2 hgq
              go_wp2_with fail
              obtain ⟨ws, hws⟩ : ∃ ws, ws = wr := ⟨_, rfl⟩
              subst hws
              go_loopw [14, 15] (fun v i wx => ∃ p : Nat, p ≤ y.m.pa.length ∧ i = .int .i64 p ∧ v = .bool ((y.m.pa.take p).any (touches q)) ∧ BitsN 1024 wx w2.heap.size (usedQ l j (q + 1)) ∧ wx.cell? ⟨wv.heap.size, 3, none⟩ = some (.string y.m.text) ∧ wx.cell? ⟨wv.heap.size, 6, none⟩ = some (.slice y.m.pA y.m.pa.length y.m.pC) ∧ wv.heap.size < wx.heap.size ∧ Below w2.heap.size w2 wx) (fun _ i _ => y.m.pa.length - (intOf i).toNat)
              case atStart => exact ⟨0, by omega, rfl, rfl, HYB.out, HV.out.1, HV.out.2, hsy, HYW.out⟩
              case round =>
                obtain ⟨p, hp, rfl, rfl, xb, x3, x6, xz, xw⟩ := hrel
                have XB := Lib.hid xb
                have XW := Lib.hid xw
                have XC := Lib.hid (And.intro x3 x6)
                clear xb
                have hdr : ∀ m, BitsN 1024 (wr.drewN m) w2.heap.size (usedQ l j (q + 1)) := fun m => XB.out.below (below_drewN (Below.refl wr.heap.size wr) m) (by omega)
                have HDR := Lib.hid hdr
                have HDC := Lib.hid (fun m => show (wr.drewN m).cell? ⟨wv.heap.size, 3, none⟩ = some (.string y.m.text) ∧ (wr.drewN m).cell? ⟨wv.heap.size, 6, none⟩ = some (.slice y.m.pA y.m.pa.length y.m.pC) from ⟨((below_drewN (Below.refl wr.heap.size wr) m).cell (p := ⟨wv.heap.size, 3, none⟩) xz).trans XC.out.1, ((below_drewN (Below.refl wr.heap.size wr) m).cell (p := ⟨wv.heap.size, 6, none⟩) xz).trans XC.out.2⟩)
                have HDZ := Lib.hid (fun m => show wv.heap.size < (wr.drewN m).heap.size from xz)
                have HDW := Lib.hid (fun m => show Below w2.heap.size w2 (wr.drewN m) from below_drewN XW.out m)
                clear hdr
                by_cases hlp : p < y.m.pa.length
                · have hlp' : (p : Int) < y.m.pa.length := by omega
                  obtain ⟨pd, hpd, hpb, a0, a1, a2, a3⟩ := pat_at HPR.out (HB2.out.trans (xw.mono HB2.out.size)) p hlp
                  rw [hpd] at x6
                  have TA := any_take (touches q) hlp
                  obtain ⟨n1, n2⟩ := HPI.out y.m.pa[p] (List.getElem_mem _)
                  obtain ⟨z, hz⟩ : ∃ z, z = y.m.pa[p]'hlp := ⟨_, rfl⟩
                  rw [← hz] at a0 a1 a2 a3 TA n1 n2
                  obtain ⟨W, hW⟩ : ∃ W, W = widthOf z.kind := ⟨_, rfl⟩
                  have cW := Lib.hid (fun V => WidthOf_any z.kind V)
                  have hW4 : 0 ≤ W ∧ W ≤ 4 := by have := widthOf_cases z.kind; omega
                  have hq4 : IntKind.i64.wrap (z.at_ + W) = z.at_ + W := IntWalk.i64_in _ (by omega)
                  have HTT : touches q z = (decide (z.at_ ≤ q) && decide ((q : Int) < z.at_ + W)) := by rw [hW]; rfl
                  rw [← hW] at cW n2
                  obtain ⟨b0, hb0⟩ : ∃ b0, b0 = (y.m.pa.take p).any (touches q) := ⟨_, rfl⟩
                  rw [← hb0] at TA ⊢
                  rw [HTT] at TA
                  clear hb0 hW hz hpd HTT
                  have TB := Lib.hid TA
                  clear TA
                  cases b0
                  · by_cases e1 : z.at_ ≤ q
                    · by_cases e2 : (q : Int) < z.at_ + W
                      · have e1' : decide (z.at_ ≤ (q : Int)) = true := decide_eq_true e1
                        have e2' : decide ((q : Int) < z.at_ + W) = true := decide_eq_true e2
                        go_wp2_with fail
                        go_quiet ((go_at_call 7; exact quiet_to (cW.out _)))
                        go_wp2_with fail
                        go_roundw
                        case rel => first | exact ⟨p + 1, by omega, by go_num, by rw [TB.out]; simp [e1, e2], HDR.out _, (HDC.out _).1, (HDC.out _).2, HDZ.out _, HDW.out _⟩ | ((repeat apply Exists.intro); refine ⟨?_, rfl⟩; exact ⟨p + 1, by omega, by go_num, by rw [TB.out]; simp [e1, e2], HDR.out _, (HDC.out _).1, (HDC.out _).2, HDZ.out _, HDW.out _⟩)
                        case measure => (simp [intOf]; try omega)
                      · have e1' : decide (z.at_ ≤ (q : Int)) = true := decide_eq_true e1
                        have e2' : decide ((q : Int) < z.at_ + W) = false := decide_eq_false e2
                        go_wp2_with fail
                        go_quiet ((go_at_call 7; exact quiet_to (cW.out _)))
                        go_wp2_with fail
                        go_roundw
                        case rel => first | exact ⟨p + 1, by omega, by go_num, by rw [TB.out]; simp [e1, e2], HDR.out _, (HDC.out _).1, (HDC.out _).2, HDZ.out _, HDW.out _⟩ | ((repeat apply Exists.intro); refine ⟨?_, rfl⟩; exact ⟨p + 1, by omega, by go_num, by rw [TB.out]; simp [e1, e2], HDR.out _, (HDC.out _).1, (HDC.out _).2, HDZ.out _, HDW.out _⟩)
                        case measure => (simp [intOf]; try omega)
                    · have e1' : decide (z.at_ ≤ (q : Int)) = false := decide_eq_false e1
                      go_wp2_with fail
                      go_quiet ((go_at_call 7; exact quiet_to (cW.out _)))
                      go_wp2_with fail
                      go_roundw
                      case rel => first | exact ⟨p + 1, by omega, by go_num, by rw [TB.out]; (simp; omega), HDR.out _, (HDC.out _).1, (HDC.out _).2, HDZ.out _, HDW.out _⟩ | ((repeat apply Exists.intro); refine ⟨?_, rfl⟩; exact ⟨p + 1, by omega, by go_num, by rw [TB.out]; (simp; omega), HDR.out _, (HDC.out _).1, (HDC.out _).2, HDZ.out _, HDW.out _⟩)
                      case measure => (simp [intOf]; try omega)
                  · go_wp2_with fail
                    go_quiet ((go_at_call 7; exact quiet_to (cW.out _)))
                    go_wp2_with fail
                    go_roundw
                    case rel => first | exact ⟨p + 1, by omega, by go_num, by rw [TB.out]; simp, HDR.out _, (HDC.out _).1, (HDC.out _).2, HDZ.out _, HDW.out _⟩ | ((repeat apply Exists.intro); refine ⟨?_, rfl⟩; exact ⟨p + 1, by omega, by go_num, by rw [TB.out]; simp, HDR.out _, (HDC.out _).1, (HDC.out _).2, HDZ.out _, HDW.out _⟩)
                    case measure => (simp [intOf]; try omega)
                · obtain rfl : p = y.m.pa.length := by omega
                  rw [List.take_length]
                  have htn : q < y.m.text.size := by omega
                  have htn' : (q : Int) < y.m.text.size := by omega
                  cases hpt : y.m.pa.any (touches q)
                  · have hgt := I1.out hpt
                    have hgv : (bs G)[q] = (y.m.text)[q]'(by omega) := by
                      have h2 : (tx y.m.text)[q]? = some ((y.m.text)[q]'(by omega)) := List.getElem?_eq_getElem (by show q < y.m.text.size; omega)
                      rw [h2] at hgt
                      exact Option.some.inj hgt
                    clear hpt hgt
                    go_wp2_with fail
                    go_quiet (fail)
                    go_wp2_with fail
                    go_roundw
                    case rel => first | exact ⟨q + 1, by omega, by go_num, HDR.out _, (HDC.out _).1, (HDC.out _).2, HDZ.out _, HDW.out _⟩ | ((repeat apply Exists.intro); refine ⟨?_, rfl⟩; exact ⟨q + 1, by omega, by go_num, HDR.out _, (HDC.out _).1, (HDC.out _).2, HDZ.out _, HDW.out _⟩)
                    case measure => (simp [intOf]; try omega)
                  · clear hpt
                    go_wp2_with fail
                    go_quiet (fail)
                    go_wp2_with fail
                    go_roundw
                    case rel => first | exact ⟨q + 1, by omega, by go_num, HDR.out _, (HDC.out _).1, (HDC.out _).2, HDZ.out _, HDW.out _⟩ | ((repeat apply Exists.intro); refine ⟨?_, rfl⟩; exact ⟨q + 1, by omega, by go_num, HDR.out _, (HDC.out _).1, (HDC.out _).2, HDZ.out _, HDW.out _⟩)
                    case measure => (simp [intOf]; try omega)
          · obtain rfl : q = G.length := by omega
            have HNB := Lib.hid (show BitsN 1024 wr w2.heap.size (usedB (l.take (j + 1))) from BitsN.congr HQB.out fun n _ => UQ1.out G.length HX4.out n)
            have hw2r : w2.heap.size < wr.heap.size := by omega
            clear hbz z3 z6 hlq
            go_wp2_with fail
            go_roundw
            case rel => exact ⟨j + 1, by omega, by go_num, HNB.out, hw2r, HBZ.out⟩
            case measure => (simp [intOf]; try omega)
      · have HBF := Lib.hid (show BitsN 1024 wr w2.heap.size (usedB l) from by have := HBT.out; rwa [List.take_of_length_le (by omega)] at this)
        clear hb
        go_wp2_with fail
        go_loopw [16] (fun i wz => ∃ n : Nat, n ≤ 1024 ∧ i = .int .i64 n ∧ BitsN 1024 wz w2.heap.size (usedB l) ∧ Below w2.heap.size w2 wz) (fun i _ => 1024 - (intOf i).toNat)
        case atStart => exact ⟨0, by omega, rfl, HBF.out, HB.out⟩
        case round =>
          obtain ⟨n, hn, rfl, hnb, hbz⟩ := hrel
          have HNB := Lib.hid hnb
          have HBZ := Lib.hid hbz
          clear hnb hbz
          by_cases hl2 : n < 1024
          · have hl3 : (n : Int) < 1024 := by omega
            have hns : n < (bs T).size := by rw [hTs]; exact hl2
            obtain ⟨u0, u1⟩ := HNB.out n hl2
            have h255 : usedB l n = false → (bs T)[n] = 255 := fun hu => by
              refine A3.out n _ (List.getElem?_eq_getElem (by rw [HTL.out]; exact hl2)) fun x hx => ?_
              have := List.any_eq_false.1 hu x hx
              simp only [Bool.and_eq_true, decide_eq_true_eq, not_and] at this
              omega
            obtain ⟨ub, hub⟩ : ∃ ub, ub = usedB l n := ⟨_, rfl⟩
            rw [← hub] at u0 h255
            clear hub
            cases ub
            · have h2 := h255 rfl
              clear h255
              go_wp2_with fail
              go_roundw
              case rel => exact ⟨n + 1, by omega, by go_num, HNB.out, HBZ.out⟩
              case measure => (simp [intOf]; try omega)
            · clear h255
              go_wp2_with fail
              go_roundw
              case rel => exact ⟨n + 1, by omega, by go_num, HNB.out, HBZ.out⟩
              case measure => (simp [intOf]; try omega)
          · have hl3 : ¬ (n : Int) < 1024 := by omega
            go_wp2_with fail
            go_ret
            exact ⟨rfl, HB2.out.trans (HBZ.out.mono HB2.out.size)⟩
  · have tE' : (E != 0) = true := by simp [tE]
    rw [hT0 tE, hbs] at c1
    clear tE hT0 hbs HT1
    go_enter Try.func3, Try.ntmps3
    go_wp2_with (first
      | (go_at_call 4; (with_reducible refine (c1.out w0 (HK.out.below H0.out) (HP.out.below H0.out)).mono ?_); rintro e w1 ⟨rfl, hb1⟩; have HB1 := Lib.hid (H0.out.trans (hb1.mono (by omega))))
      | (go_at_call 5; (with_reducible refine (linkBegun_any _).mono ?_); rintro e w2 ⟨rfl, hb2⟩))
    go_ret
    exact ⟨by simp, HB1.out.trans (hb2.mono HB1.out.size)⟩

set_option maxRecDepth 100000 in
theorem linkMoved_lifted (os : Os) (started : os.Started) (H : Type) (enc : TypeId × Value → H) :
    ReturnsInHanded {} Try.checked os 3 .any (Rows.linkMovedSpec.pre6 enc Try.prog Try.f3 Rows.linkMovedRow.domain false) (Rows.linkMovedSpec.post enc Try.prog Try.f3 false true false false) := by
  refine returnsInHanded_of_change_sized (C := Try.checked) Try.own started (by kernel_rfl) Try.func3
    (ChangeSpec.witness6 (enc := enc) (C := Try.checked) false ⟨#[], #[.agg #[.int .i64 0, .int .i64 0, .slice none 0 0], .slice none 0 0], []⟩ 8 (by kernel_rfl) (by kernel_rfl) (by kernel_rfl) (by kernel_rfl)) ?_
  intro W base args ds gs before hval0 hW hcnd hsz0 _
  have hval : ∀ (j : Nat) t v, Try.f3.params[j]? = some t → args[j]? = some v → Value.okWide Try.prog W .any base t v := hval0
  have hsz : (DataW.weightsEach Try.prog (Try.f3.params.toList ++ Rows.linkMovedSpec.plain.varTypes Try.prog) (ds ++ gs)).all (· ≤ reachBytes) = true := hsz0
  have hW' := hW
  obtain ⟨p, q, hA0, hV, rfl, hfz, hnd⟩ := hW
  have hA : DataW.TrodAll enc Try.prog W 0 (fun _ => true) true Try.f3.params.toList args.toList ds p := hA0
  rw [Try.params3] at hA hval hsz
  obtain ⟨v0, vs0, d0, ds0, p0, q0, hargs, rfl, rfl, h0, r0⟩ := trodAll_cons hA
  obtain ⟨v1, vs1, d1, ds1, p1, q1, rfl, rfl, rfl, h1, r1⟩ := trodAll_cons r0
  obtain ⟨rfl, rfl, rfl⟩ := trodAll_nil r1
  obtain rfl : args = #[v0, v1] := by cases args; simp_all
  obtain ⟨rfl, rfl⟩ := trodVars_none hV
  have ft0 := fits_each hsz (j := 0) rfl rfl
  obtain ⟨k, rfl, ok0⟩ := open_Kernel (hval 0 24 v0 rfl rfl) h0 ft0
  have ft1 := fits_each hsz (j := 1) rfl rfl
  obtain ⟨lA, l, lc, rfl, ok1⟩ := open_Placeds (hval 1 25 v1 rfl rfl) h1 ft1
  refine (LinkMoved_any k lA l lc W ok0 ok1).mono fun e W' ⟨he, hb⟩ => ?_
  subst he
  exact ⟨_, rfl, law_post Try.laidOut hW' rfl (by decide +kernel) rfl Try.underlying4 rfl rfl rfl hb⟩

theorem linkMoved_holds : Rows.LinkMovedSaid :=
  OpenClaim.holds_of_wide 3 Try.f3 rfl rfl rfl rfl rfl rfl rfl ⟨rfl, rfl, rfl, rfl, rfl⟩ rfl rfl rfl rfl rfl (by kernel_rfl) Try.func3 (by kernel_rfl)
    (of_decide_eq_true (by kernel_rfl)) (by unfold Func.isWrapper; first | (rw [if_pos (by decide +kernel)]; kernel_rfl) | (rw [if_neg (by decide +kernel)]; exact ⟨rfl, rfl⟩))
    (fun os started H enc _ => linkMoved_lifted os started H enc)
#print axioms linkMoved_holds


end Go.Proofs.Ytjnfemcfohflnaa
