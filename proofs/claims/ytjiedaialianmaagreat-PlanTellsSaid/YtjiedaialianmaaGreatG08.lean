import Derived.Test.YtjiedaialianmaaGreatG05
import Derived.Test.YtjiedaialianmaaGreatG07
import Derived.Test.YtjiedaialianmaaGreatG06
import Derived.BigRegion
import Derived.Maps.AppendAt
import Derived.Test.YtjiedaialianmaaGreatG02
import Derived.Test.YtjiedaialianmaaGreatG01
import Derived.Test.YtjiedaialianmaaGreatG03
import Derived.ProofKit
import Derived.OpenShut
import Derived.SizedLaws
import Derived.Lib.SmallJoins
import Derived.Deep.Slices
import Derived.Deep.Fields
import Derived.ChangeSame
section

namespace Go.Proofs.YtjiedaialianmaaGreat
open Go.RowKit
open Gs (Tx)

set_option maxHeartbeats 2000000 in
set_option maxRecDepth 100000 in
theorem CheckLink_any (k : Krn) (A : Option Addr) (c : Nat) (l : List Plc) (w : World) (hk : k.ok w) (h : PlsOk w A l) :
    Calls Tryz.prog 101 #[k.v, .slice A l.length c] w fun e w' => e = .returned (.int .i64 (linkErr k l)) ∧ Below w.heap.size w w' := by
  obtain ⟨w0, hw0⟩ : ∃ w0, w0 = w.alloc (.cells #[.int .i64 k.major, .int .i64 k.minor, .slice k.eA k.ex.length k.eC] 24) := ⟨_, rfl⟩
  obtain ⟨g0, g1, g2, hz, hb0⟩ := box3 hw0
  have H0 := Lib.hid hb0
  have hw0' := hw0.symm
  have c1 := Lib.hid (CheckKernel_any k w0 (hk.below hb0))
  have c2 := Lib.hid (fun W (hb : Below w.heap.size w W) => CheckRegions_any A c l W (h.below hb))
  have c3 := Lib.hid (fun W (hb : Below w.heap.size w W) => IsTwice_any A c l W (h.row.below hb) h.len)
  obtain ⟨E, hE⟩ : ∃ E, E = linkErr k l := ⟨_, rfl⟩
  rw [← hE]
  unfold linkErr at hE
  clear hw0 hb0 hk h
  generalize krnErr k = ke at *
  generalize regErr l = re at *
  generalize isTwice l = tw at *
  by_cases t1 : ke = 0
  · obtain rfl := t1
    rw [if_neg (by omega)] at hE
    by_cases t2 : re = 0
    · obtain rfl := t2
      rw [if_neg (by omega)] at hE
      cases tw
      · rw [if_neg (by simp)] at hE
        go_enter Tryz.func101, Tryz.ntmps101
        go_wp2_with (first | (go_at_call 17; (with_reducible refine (c1.out).mono ?_); rintro e w1 ⟨rfl, hb1⟩) | (go_at_call 174; (with_reducible refine (c2.out _ (H0.out.trans (hb1.mono (by omega)))).mono ?_); rintro e w2 ⟨rfl, hb2⟩) | (go_at_call 175; (with_reducible refine (c3.out _ ((H0.out.trans (hb1.mono (by omega))).trans (hb2.mono (by have := hb1.size; omega)))).mono ?_); rintro e w3 ⟨rfl, hb3⟩))
        go_ret
        exact ⟨ret_int hE.symm, ((H0.out.trans (hb1.mono (by omega))).trans (hb2.mono (by have := hb1.size; omega))).trans (hb3.mono (by have := hb1.size; have := hb2.size; omega))⟩
      · rw [if_pos rfl] at hE
        go_enter Tryz.func101, Tryz.ntmps101
        go_wp2_with (first | (go_at_call 17; (with_reducible refine (c1.out).mono ?_); rintro e w1 ⟨rfl, hb1⟩) | (go_at_call 174; (with_reducible refine (c2.out _ (H0.out.trans (hb1.mono (by omega)))).mono ?_); rintro e w2 ⟨rfl, hb2⟩) | (go_at_call 175; (with_reducible refine (c3.out _ ((H0.out.trans (hb1.mono (by omega))).trans (hb2.mono (by have := hb1.size; omega)))).mono ?_); rintro e w3 ⟨rfl, hb3⟩))
        go_ret
        exact ⟨ret_int hE.symm, ((H0.out.trans (hb1.mono (by omega))).trans (hb2.mono (by have := hb1.size; omega))).trans (hb3.mono (by have := hb1.size; have := hb2.size; omega))⟩
    · rw [if_pos t2] at hE
      have t2' : (re == 0) = false := by simp [t2]
      clear t2 c3
      go_enter Tryz.func101, Tryz.ntmps101
      go_wp2_with (first | (go_at_call 17; (with_reducible refine (c1.out).mono ?_); rintro e w1 ⟨rfl, hb1⟩) | (go_at_call 174; (with_reducible refine (c2.out _ (H0.out.trans (hb1.mono (by omega)))).mono ?_); rintro e w2 ⟨rfl, hb2⟩))
      go_ret
      exact ⟨ret_int hE.symm, (H0.out.trans (hb1.mono (by omega))).trans (hb2.mono (by have := hb1.size; omega))⟩
  · rw [if_pos t1] at hE
    have t1' : (ke == 0) = false := by simp [t1]
    clear t1 c2 c3
    go_enter Tryz.func101, Tryz.ntmps101
    go_wp2_with (first | (go_at_call 17; (with_reducible refine (c1.out).mono ?_); rintro e w1 ⟨rfl, hb1⟩))
    go_ret
    exact ⟨ret_int hE.symm, H0.out.trans (hb1.mono (by omega))⟩

/-- a text's bytes, as a number -/
def strZ : Value → Nat | .string s => s.size | _ => 0
theorem pad_step {n : Nat} {s : Tx} (h : s.length < n) : pad n (s ++ [255]) = pad n s := by
  unfold pad
  rw [List.append_assoc]
  congr 1
  have e : n - s.length = (n - (s ++ [255]).length) + 1 := by simp; omega
  rw [e, List.replicate_succ]; rfl
theorem pad_full {n : Nat} {s : Tx} (h : s.length = n) : pad n s = s := by
  unfold pad; rw [h, Nat.sub_self]; simp
theorem push255 (t : Tx) : bs t ++ ⟨#[255]⟩ = bs (t ++ [255]) := ba_eq (by rw [ba_append])

set_option maxHeartbeats 8000000 in
set_option maxRecDepth 100000 in
theorem ImageOf_any (k : Krn) (A : Option Addr) (c : Nat) (l : List Plc) (j : Nat) (w : World) (hj : j < l.length) (hk : k.ok w) (h : PlsOk w A l) (hp : placedErr k l = 0) (hm : modErr l[j].m = 0) (h0 : 0 ≤ l[j].first) (h1 : l[j].first ≤ 16) :
    Calls Tryz.prog 177 #[k.v, .slice A l.length c, .int .i64 j] w fun e w' => e = .returned (.tuple #[.string (bs (imgOf k l l[j]).1), .int .i64 (imgOf k l l[j]).2]) ∧ Below w.heap.size w w' := by
  have hlen := h.len
  unfold big at hlen
  have hj' : (j : Int) < l.length := by omega
  have KJ := Lib.hid (fun W (hbW : Below w.heap.size w W) => plc_at h.row hbW j hj)
  have hx := h.each l[j] (List.getElem_mem _)
  obtain ⟨wk, hwk⟩ : ∃ wk, wk = w.alloc (.cells #[.int .i64 k.major, .int .i64 k.minor, .slice k.eA k.ex.length k.eC] 24) := ⟨_, rfl⟩
  obtain ⟨g0, g1, g2, hzk, hbk⟩ := box3 hwk
  obtain ⟨ad, rfl, hab, p0, p1, p2, p3, p4, p5, p6, p7⟩ := KJ.out wk hbk
  obtain ⟨y, hy⟩ : ∃ y, y = l[j]'hj := ⟨_, rfl⟩
  rw [← hy] at hm h0 h1 hx p0 p1 p2 p3 p4 p5 p6 p7 ⊢
  simp only [← hy] at KJ
  obtain ⟨w0, hw0⟩ : ∃ w0, w0 = wk.alloc (.cells #[.string y.m.name, .int .i64 y.m.major, .int .i64 y.m.minor, .string y.m.text, .slice y.m.eA y.m.ex.length y.m.eC, .slice y.m.iA y.m.im.length y.m.iC, .slice y.m.pA y.m.pa.length y.m.pC] 70) := ⟨_, rfl⟩
  obtain ⟨f0, f1, f2, f3, f4, f5, f6, hz0, hb0⟩ := box7 hw0
  rw [hzk] at f0 f1 f2 f3 f4 f5 f6 hz0 hb0
  have k0 := (hb0.cell (p := ⟨w.heap.size, 0, none⟩) (by simp)).trans g0
  have k1 := (hb0.cell (p := ⟨w.heap.size, 1, none⟩) (by simp)).trans g1
  have k2 := (hb0.cell (p := ⟨w.heap.size, 2, none⟩) (by simp)).trans g2
  have hbw := hbk.trans (hb0.mono (by omega))
  have H0 := Lib.hid hbw
  have hwk' := hwk.symm
  have hw0' := hw0.symm
  have hfm := modErr_facts hm
  have HPS := Lib.hid (show ∀ p ∈ y.m.pa, p.sym < y.m.im.length from mod_pats hm)
  obtain ⟨mt1, mt2, mt3⟩ := many_text y.m
  have hMany := many_ok hm
  have ht : y.m.text.size ≤ 256 := hfm.2.2.1
  have hi6 : y.m.im.length ≤ 6 := hfm.2.2.2.2.2.2.1
  have hpl : y.m.pa.length ≤ 12 := hfm.2.2.2.2.2.2.2.1
  have cA := Lib.hid (AddressesOf_any k (some ad) c l y.m.name y.m.text y.m.major y.m.minor y.m.ex y.m.im y.m.pa y.m.eA y.m.iA y.m.pA y.m.eC y.m.iC y.m.pC w0 (hk.below hbw) (h.below hbw) (hx.below hbw).im hi6 hp)
  have HAL := Lib.hid (addrs_length (k := k) (l := l) (r := y.m.im))
  have HPA := Lib.hid (show Row Pat.cells 4 w0 y.m.pA y.m.pa from (hx.below hbw).pa.1)
  have hI : imgOf k l y = if (addrsOf k l y.m.im).2 ≠ 0 then ([], (addrsOf k l y.m.im).2) else if (patchAll (addrsOf k l y.m.im).1 (baseOf y) y.m.pa y.m.text).2 ≠ 0 then ([], (patchAll (addrsOf k l y.m.im).1 (baseOf y) y.m.pa y.m.text).2) else (pad (64 * (manyOf y.m).toNat) (tx (patchAll (addrsOf k l y.m.im).1 (baseOf y) y.m.pa y.m.text).1), 0) := rfl
  obtain ⟨I, hII⟩ : ∃ I, I = imgOf k l y := ⟨_, rfl⟩
  rw [← hII] at hI ⊢
  generalize addrsOf k l y.m.im = ads at *
  obtain ⟨ns, er⟩ := ads
  simp only at cA HAL hI
  have hb0f : baseOf y = 4096 + 64 * y.first := rfl
  have q1 : IntKind.i64.wrap (64 * y.first) = 64 * y.first := IntWalk.i64_in _ (by omega)
  have q2 : IntKind.i64.wrap (4096 + 64 * y.first) = baseOf y := IntWalk.i64_in _ (by omega)
  clear hII hwk hw0 hbk hb0 hbw g0 g1 g2 hk h hx hp hm hfm hy
  have hz1 : w.heap.size + 1 < w0.heap.size := by omega
  have hz2 : w.heap.size < w0.heap.size := by omega
  clear hz0
  by_cases te : er = 0
  · subst te
    rw [if_neg (by simp)] at hI
    have hnl := HAL.out rfl
    obtain ⟨R, hRR⟩ : ∃ R, R = patchAll ns (baseOf y) y.m.pa y.m.text := ⟨_, rfl⟩
    rw [← hRR] at hI
    have HRR := Lib.hid hRR.symm
    have HI := Lib.hid hI
    have HNL := Lib.hid hnl
    have HBA := Lib.hid (show baseOf y = baseOf y from rfl)
    generalize baseOf y = BA at *
    subst hb0f
    clear hI hRR hnl HAL
    go_enter Tryz.func177, Tryz.ntmps177
    go_wp2_with (go_at_call 230; (with_reducible refine (cA.out).mono ?_); rintro e w2 ⟨⟨sA, sC, rfl, hr2⟩, hb2⟩; have HR2 := Lib.hid hr2; have HB2 := Lib.hid hb2; obtain ⟨hc2, hf2⟩ := bcell hb2; have hz3 : w.heap.size + 1 < w2.heap.size := (by have := hb2.size; omega); have hz4 : w.heap.size < w2.heap.size := (by omega); have hab2 : (ad.add (j * 8)).block < w2.heap.size := (by rw [block_of_add]; omega); obtain ⟨_, ea, _, m0, m1, m2, m3, m4, m5, m6, m7⟩ := KJ.out _ (H0.out.trans (hb2.mono H0.out.size)); obtain rfl := Option.some.inj ea; clear hr2 hb2)
    have HPA2 := Lib.hid (HPA.out.below HB2.out)
    have x6 := (HB2.out.cell (p := ⟨w.heap.size + 1, 6, none⟩) hz1).trans f6
    have HX6 := Lib.hid x6
    have HBW := Lib.hid (H0.out.trans (HB2.out.mono H0.out.size))
    clear hc2 hf2 m0 m1 m2 m3 m4 m5 m6 m7 x6
    go_loopw [10, 12, 13] (fun cd v i wr => ∃ (n : Nat) (s : ByteArray), n ≤ y.m.pa.length ∧ cd = .int .i64 0 ∧ v = .string s ∧ i = .int .i64 n ∧ s.size = y.m.text.size ∧ patchAll ns (4096 + 64 * y.first) (y.m.pa.drop n) s = R ∧ Below w2.heap.size w2 wr) (fun _ _ i _ => y.m.pa.length - (intOf i).toNat)
    case atStart => exact ⟨0, y.m.text, by omega, rfl, rfl, rfl, rfl, HRR.out, Below.refl _ _⟩
    case round =>
      obtain ⟨n, s, hn, rfl, rfl, rfl, hsz, hR, hb⟩ := hrel
      have HSZ := Lib.hid hsz
      have HR := Lib.hid hR
      have HB := Lib.hid hb
      have hsz9 : s.size ≤ 256 := by omega
      have m6 := (hb.cell (p := ⟨w.heap.size + 1, 6, none⟩) hz3).trans HX6.out
      have hz5 : w.heap.size + 1 < wr.heap.size := by have := hb.size; omega
      clear hsz hR
      by_cases hlt : n < y.m.pa.length
      · have hlt' : (n : Int) < y.m.pa.length := by omega
        obtain ⟨pd, hpd, hpb, a0, a1, a2, a3⟩ := pat_at HPA2.out hb n hlt
        rw [hpd] at m6
        have hsy := HPS.out y.m.pa[n] (List.getElem_mem _)
        have E1 := Lib.hid (fun e => (patchAll_err (at_ := ns) (base := (4096 + 64 * y.first)) (s := s) hlt e).symm.trans HR.out)
        have E2 := Lib.hid (fun e => (patchAll_next (at_ := ns) (base := (4096 + 64 * y.first)) (s := s) hlt e).trans HR.out)
        have E3 := Lib.hid (show applyErr s.size y.m.pa[n].kind y.m.pa[n].at_ y.m.pa[n].add (symOf ns (4096 + 64 * y.first) y.m.pa[n]) (4096 + 64 * y.first) = 0 → (applyStr s y.m.pa[n].kind y.m.pa[n].at_ y.m.pa[n].add (symOf ns (4096 + 64 * y.first) y.m.pa[n]) (4096 + 64 * y.first)).size = s.size from fun e => applyStr_size e)
        obtain ⟨q, hq⟩ : ∃ q, q = y.m.pa[n]'hlt := ⟨_, rfl⟩
        rw [← hq] at a0 a1 a2 a3 hsy
        simp only [← hq] at E1 E2 E3
        obtain ⟨S, hS⟩ : ∃ S, S = symOf ns (4096 + 64 * y.first) q := ⟨_, rfl⟩
        simp only [← hS] at E1 E2 E3
        unfold symOf at hS
        have cP := Lib.hid (fun W => ApplyOf_any s q.kind q.at_ q.sym q.add S (4096 + 64 * y.first) W (by omega))
        obtain ⟨E, hE⟩ : ∃ E, E = applyErr s.size q.kind q.at_ q.add S (4096 + 64 * y.first) := ⟨_, rfl⟩
        obtain ⟨T, hT⟩ : ∃ T, T = applyStr s q.kind q.at_ q.add S (4096 + 64 * y.first) := ⟨_, rfl⟩
        simp only [← hE, ← hT] at cP E1 E2 E3
        clear hq hE hT hpd
        by_cases t : q.sym < 0
        · rw [if_pos t] at hS
          subst hS
          have t' : decide (0 ≤ q.sym) = false := by simp; omega
          clear t hsy hb
          by_cases tE : E = 0
          · subst tE
            have e2 := Lib.hid (E2.out rfl)
            have e3 := Lib.hid ((E3.out rfl).trans HSZ.out)
            clear E1 E2 E3
            go_wp2_with (go_at_call 231; (with_reducible refine (cP.out _).mono ?_); rintro e w5 ⟨rfl, hb5⟩)
            go_roundw
            case rel => exact ⟨n + 1, T, by omega, by rfl, by rfl, by go_num, e3.out, e2.out, HB.out.trans (hb5.mono HB.out.size)⟩
            case measure => (simp [intOf]; try omega)
          · have e1 := Lib.hid (E1.out tE)
            have tE' : (E != 0) = true := by simp [tE]
            have HTE := Lib.hid tE
            clear tE E1 E2 E3
            go_wp2_with (go_at_call 231; (with_reducible refine (cP.out _).mono ?_); rintro e w5 ⟨rfl, hb5⟩)
            go_ret2
            refine ⟨?_, HBW.out.trans ((HB.out.trans (hb5.mono HB.out.size)).mono HBW.out.size)⟩
            rw [HI.out, ← e1.out, if_pos HTE.out]; rfl
        · rw [if_neg t] at hS
          obtain ⟨m, hm⟩ : ∃ m : Nat, q.sym = m := ⟨q.sym.toNat, by omega⟩
          have hml : m < ns.length := by have := HNL.out; omega
          have hml' : (m : Int) < ns.length := by omega
          rw [hm] at hS a2 cP
          rw [Int.toNat_natCast, List.getD_eq_getElem?_getD, List.getElem?_eq_getElem hml, Option.getD_some] at hS
          obtain ⟨sa, hsa, hsb, i0⟩ := intl_at HR2.out hb m hml
          rw [← hS] at i0
          subst hsa
          clear t hsy hb hS hm
          by_cases tE : E = 0
          · subst tE
            have e2 := Lib.hid (E2.out rfl)
            have e3 := Lib.hid ((E3.out rfl).trans HSZ.out)
            clear E1 E2 E3
            go_wp2_with (go_at_call 231; (with_reducible refine (cP.out _).mono ?_); rintro e w5 ⟨rfl, hb5⟩)
            go_roundw
            case rel => exact ⟨n + 1, T, by omega, by rfl, by rfl, by go_num, e3.out, e2.out, HB.out.trans (hb5.mono HB.out.size)⟩
            case measure => (simp [intOf]; try omega)
          · have e1 := Lib.hid (E1.out tE)
            have tE' : (E != 0) = true := by simp [tE]
            have HTE := Lib.hid tE
            clear tE E1 E2 E3
            go_wp2_with (go_at_call 231; (with_reducible refine (cP.out _).mono ?_); rintro e w5 ⟨rfl, hb5⟩)
            go_ret2
            refine ⟨?_, HBW.out.trans ((HB.out.trans (hb5.mono HB.out.size)).mono HBW.out.size)⟩
            rw [HI.out, ← e1.out, if_pos HTE.out]; rfl
      · have e1 := Lib.hid ((patchAll_end (at_ := ns) (base := 4096 + 64 * y.first) (s := s) hlt).symm.trans HR.out)
        obtain rfl : n = y.m.pa.length := by omega
        obtain ⟨M, hMM⟩ : ∃ M : Nat, manyOf y.m = M := ⟨(manyOf y.m).toNat, by omega⟩
        obtain ⟨G, hG⟩ : ∃ G, G = pad (64 * M) (tx s) := ⟨_, rfl⟩
        have HG := Lib.hid hG.symm
        have HII := Lib.hid (show I = (G, 0) by rw [HI.out, ← e1.out, if_neg (by simp), hMM, hG]; rfl)
        rw [hMM] at mt1 mt2 hMany
        have hss : (tx s).length = s.size := rfl
        have HSS := Lib.hid (show (bs (tx s)) = s from rfl)
        have hsz := HSZ.out
        clear hlt hG hMM mt3
        go_wp2_with fail
        go_loopw [12] (fun v wz => ∃ u : Tx, v = .string (bs u) ∧ u.length ≤ 64 * M ∧ 64 * M < u.length + 64 ∧ pad (64 * M) u = G ∧ Below wr.heap.size wr wz) (fun v _ => 64 * M - strZ v)
        case atStart => exact ⟨tx s, rfl, by omega, by omega, HG.out, Below.refl _ _⟩
        case round =>
          obtain ⟨u, rfl, hu1, hu2, hpu, hbz⟩ := hrel
          have HPU := Lib.hid hpu
          have HBZ := Lib.hid hbz
          have hus : (bs u).size = u.length := rfl
          clear hpu hbz
          by_cases hl2 : u.length < 64 * M
          · have hr1 : 0 < (u.length : Int) % 64 := by omega
            have g9 : ∀ W, (Op.stringOp .add (bs u) ⟨#[255]⟩).run Tryz.prog W = .ok (.string (bs u ++ ⟨#[255]⟩)) W := fun W => run_string_add_sum _ _ _ (by rw [hus]; show _ + 1 ≤ _; omega)
            rw [push255] at g9
            go_wp2_with fail
            go_roundw
            case rel => exact ⟨u ++ [255], rfl, by simp; omega, by simp; omega, (pad_step hl2).trans HPU.out, HBZ.out⟩
            case measure => (simp only [strZ]; show _ - (u ++ [255]).length < _ - u.length; simp; omega)
          · have hr1 : (u.length : Int) % 64 = 0 := by omega
            have HU := Lib.hid ((pad_full (show u.length = 64 * M by omega)).symm.trans HPU.out)
            go_wp2_with fail
            go_ret2
            refine ⟨?_, HBW.out.trans ((HB.out.trans (HBZ.out.mono HB.out.size)).mono HBW.out.size)⟩
            rw [HII.out, HU.out]
            rfl
  · rw [if_pos te] at hI
    have te' : (er != 0) = true := by simp [te]
    have HI := Lib.hid hI
    clear hI te HAL
    go_enter Tryz.func177, Tryz.ntmps177
    go_wp2_with (go_at_call 230; (with_reducible refine (cA.out).mono ?_); rintro e w2 ⟨⟨sA, sC, rfl, hr2⟩, hb2⟩; have HB2 := Lib.hid hb2; clear hr2 hb2)
    go_ret2
    exact ⟨by rw [HI.out]; rfl, H0.out.trans (HB2.out.mono H0.out.size)⟩

set_option maxHeartbeats 8000000 in
set_option maxRecDepth 100000 in
theorem AreaOf_any (k : Krn) (A : Option Addr) (c : Nat) (l : List Plc) (w : World) (hk : k.ok w) (h : PlsOk w A l) (hL : linkErr k l = 0) :
    Calls Tryz.prog 103 #[k.v, .slice A l.length c] w fun e w' => e = .returned (.tuple #[.string (bs (areaT k l)), .int .i64 (areaErr k l)]) ∧ Below w.heap.size w w' := by
  have hlen := h.len
  unfold big at hlen
  have hE : areaErr k l = (areaGo k l l 0).2 := by unfold areaErr; rw [if_neg (by omega)]
  have hT : areaT k l = (areaGo k l l 0).1 := by unfold areaT; rw [if_neg (by omega)]
  rw [hE, hT]
  obtain ⟨w0, hw0⟩ : ∃ w0, w0 = w.alloc (.cells #[.int .i64 k.major, .int .i64 k.minor, .slice k.eA k.ex.length k.eC] 24) := ⟨_, rfl⟩
  obtain ⟨g0, g1, g2, hz, hb0⟩ := box3 hw0
  have hz0 : w.heap.size < w0.heap.size := by omega
  have H0 := Lib.hid hb0
  have hw0' := hw0.symm
  have HP := Lib.hid h
  have HK := Lib.hid hk
  have HPL := Lib.hid (linkErr_ok hL).2.2.2
  have HRW := Lib.hid (reg_row (linkErr_ok hL).2.1).2.2
  have HEA := Lib.hid (plc_link hL)
  obtain ⟨R, hRR⟩ : ∃ R, R = areaGo k l l 0 := ⟨_, rfl⟩
  rw [← hRR]
  have HRR := Lib.hid hRR.symm
  have HK0 := Lib.hid g0
  have HK1 := Lib.hid g1
  have HK2 := Lib.hid g2
  clear hw0 hb0 hz hL h hk hE hT hRR g0 g1 g2
  go_enter Tryz.func103, Tryz.ntmps103
  go_wp2_with fail
  go_loopw [6, 7] (fun v i wr => ∃ (j : Nat) (a : Int) (pre : Tx), j ≤ l.length ∧ i = .int .i64 j ∧ v = .string (bs pre) ∧ 0 ≤ a ∧ a ≤ 16 ∧ Row16 a (l.drop j) ∧ (pre.length : Int) = 64 * a ∧ aglue pre (areaGo k l (l.drop j) a) = R ∧ Below w0.heap.size w0 wr) (fun _ i _ => l.length - (intOf i).toNat)
  case atStart => exact ⟨0, 0, [], by omega, rfl, rfl, by omega, by omega, HRW.out, rfl, by rw [aglue_nil]; exact HRR.out, Below.refl _ _⟩
  case round =>
    obtain ⟨j, a, pre, hj, rfl, rfl, ha0, ha1, hrw, hpl, hR, hb⟩ := hrel
    have HB := Lib.hid hb
    have HR := Lib.hid hR
    have HPL2 := Lib.hid hpl
    have HRW2 := Lib.hid hrw
    have hpre : pre.length ≤ 1024 := by omega
    have hps : (bs pre).size = pre.length := rfl
    clear hR hrw
    by_cases hlt : j < l.length
    · have hlt' : (j : Int) < l.length := by omega
      obtain ⟨r1, r2, r3, r4⟩ := row16_at HRW2.out hlt
      obtain ⟨q1, q2, q3⟩ := HEA.out l[j] (List.getElem_mem _)
      have hb9 := H0.out.trans (hb.mono H0.out.size)
      obtain ⟨ad, rfl, hab, f0, f1, f2, f3, f4, f5, f6, f7⟩ := plc_at HP.out.row hb9 j hlt
      have KJ := Lib.hid (fun W (hbW : Below w.heap.size w W) => plc_at HP.out.row hbW j hlt)
      have m0 := (hb.cell (p := ⟨w.heap.size, 0, none⟩) hz0).trans HK0.out
      have m1 := (hb.cell (p := ⟨w.heap.size, 1, none⟩) hz0).trans HK1.out
      have m2 := (hb.cell (p := ⟨w.heap.size, 2, none⟩) hz0).trans HK2.out
      have hwz := hb.size
      have hz2 : w.heap.size < wr.heap.size := by omega
      have E1 := Lib.hid (fun e => (area_err (k := k) (pre := pre) (a := a) hlt e).symm.trans HR.out)
      have E2 := Lib.hid (fun e => (area_next (k := k) (pre := pre) (a := a) hlt e).trans HR.out)
      have E3 := Lib.hid (fun (e : (imgOf k l (l[j]'hlt)).2 = 0) => imgOf_length (k := k) (l := l) (x := l[j]'hlt) e)
      have cI := Lib.hid (fun W (hW : Below w.heap.size w W) => ImageOf_any k (some ad) c l j W hlt (HK.out.below hW) (HP.out.below hW) HPL.out q1 q2 q3)
      have hEn : endOf l[j] = l[j].first + manyOf l[j].m := rfl
      have hle := Row16.le r4
      obtain ⟨y, hy⟩ : ∃ y, y = l[j]'hlt := ⟨_, rfl⟩
      simp only [← hy] at f0 f1 f2 f3 f4 f5 f6 f7 E1 E2 E3 cI hEn hle r1 r2 r3 r4 q2 q3 KJ
      have R4 := Lib.hid r4
      have HB9 := Lib.hid hb9
      clear hb hb9 hy q1 r4
      obtain ⟨⟨G, ge⟩, hG⟩ : ∃ G, G = imgOf k l y := ⟨_, rfl⟩
      simp only [← hG] at cI E1 E2 E3
      clear hG
      by_cases tE : ge = 0
      · subst tE
        have e2 := E2.out rfl
        have e3 := E3.out rfl
        have HGL := Lib.hid e3
        have hgl9 : G.length ≤ 256 := by omega
        have hgs : (bs G).size = G.length := rfl
        obtain ⟨N, hN⟩ : ∃ N : Nat, N = (64 * y.first).toNat := ⟨_, rfl⟩
        have hN2 : (N : Int) = 64 * y.first := by omega
        obtain ⟨G0, hG0⟩ : ∃ G0, G0 = pre ++ List.replicate (64 * (y.first - a)).toNat 255 := ⟨_, rfl⟩
        have HG0 := Lib.hid (show pad N pre = G0 by rw [hG0]; unfold pad; congr 2; omega)
        have HG1 := Lib.hid (show G0.length = N by rw [hG0, List.length_append, List.length_replicate]; omega)
        rw [← List.append_assoc, ← hG0] at e2
        have hl0 : pre.length ≤ N := by omega
        have E2 := Lib.hid e2
        have q4 : IntKind.i64.wrap (64 * y.first) = N := by rw [hN2]; exact IntWalk.i64_in _ (by omega)
        have HN := Lib.hid hN2
        have hN9 : N ≤ 1024 := by omega
        have HPS := Lib.hid hps
        clear e2 e3 E1 E3 f0 f1 f2 f3 f4 f5 f6 f7 hG0 hN hN2 hpl hps
        go_wp2_with (go_at_call 177; (with_reducible refine (cI.out _ HB9.out).mono ?_); rintro e w5 ⟨rfl, hb5⟩; have HB5 := Lib.hid hb5; clear hb5)
        have HB8 := Lib.hid (HB9.out.trans (HB5.out.mono HB9.out.size))
        have hw5 : w0.heap.size ≤ w5.heap.size := by have := HB5.out.size; omega
        have HEN := Lib.hid hEn
        have HGS := Lib.hid hgs
        clear hEn hgs
        go_loopw [6] (fun v wz => ∃ u : Tx, v = .string (bs u) ∧ u.length ≤ N ∧ pad N u = G0 ∧ Below w5.heap.size w5 wz) (fun v _ => N - strZ v)
        case atStart => exact ⟨pre, rfl, hl0, HG0.out, Below.refl _ _⟩
        case round =>
          obtain ⟨u, rfl, hu1, hpu, hbz⟩ := hrel
          have HPU := Lib.hid hpu
          have HBZ := Lib.hid hbz
          have hus : (bs u).size = u.length := rfl
          obtain ⟨_, ea, _, f0, f1, f2, f3, f4, f5, f6, f7⟩ := KJ.out _ (HB8.out.trans (hbz.mono HB8.out.size))
          obtain rfl := Option.some.inj ea
          clear hpu hbz
          by_cases hl2 : u.length < N
          · have hl3 : (u.length : Int) < N := by omega
            have g9 : ∀ W, (Op.stringOp .add (bs u) ⟨#[255]⟩).run Tryz.prog W = .ok (.string (bs u ++ ⟨#[255]⟩)) W := fun W => run_string_add_sum _ _ _ (by rw [hus]; show _ + 1 ≤ _; omega)
            rw [push255] at g9
            go_wp2_with fail
            go_roundw
            case rel => exact ⟨u ++ [255], rfl, by simp; omega, (pad_step hl2).trans HPU.out, HBZ.out⟩
            case measure => (simp only [strZ]; show _ - (u ++ [255]).length < _ - u.length; simp; omega)
          · have hl3 : ¬ (u.length : Int) < N := by omega
            have hUG := (pad_full (show u.length = N by omega)).symm.trans HPU.out
            subst hUG
            have g9 : ∀ W, (Op.stringOp .add (bs u) (bs G)).run Tryz.prog W = .ok (.string (bs u ++ bs G)) W := fun W => run_string_add_sum _ _ _ (by rw [hus, HGS.out]; omega)
            rw [show bs u ++ bs G = bs (u ++ G) from ba_eq (by rw [ba_append])] at g9
            go_wp2_with fail
            go_roundw
            case rel => exact ⟨j + 1, endOf y, u ++ G, by omega, by go_num, rfl, by have := HEN.out; omega, hle, R4.out, by rw [List.length_append]; have := HEN.out; have := HGL.out; have := HN.out; omega, E2.out, HB.out.trans ((HB5.out.trans (HBZ.out.mono HB5.out.size)).mono HB.out.size)⟩
            case measure => (simp [intOf]; try omega)
      · have e1 := Lib.hid (E1.out tE)
        have tE' : (ge != 0) = true := by simp [tE]
        clear E2 E3 tE
        go_wp2_with (go_at_call 177; (with_reducible refine (cI.out _ HB9.out).mono ?_); rintro e w5 ⟨rfl, hb5⟩; have HB5 := Lib.hid hb5; clear hb5)
        go_ret2
        refine ⟨?_, HB9.out.trans (HB5.out.mono HB9.out.size)⟩
        rw [← e1.out]
        rfl
    · have e1 := Lib.hid ((area_end (k := k) (pre := pre) (a := a) hlt).symm.trans HR.out)
      obtain rfl : j = l.length := by omega
      obtain ⟨G, hG⟩ : ∃ G, G = pad 1024 pre := ⟨_, rfl⟩
      have HG := Lib.hid hG.symm
      have HII := Lib.hid (show R = (G, 0) by
        rw [← e1.out, hG, pad, show (64 * (16 - a)).toNat = 1024 - pre.length by omega])
      clear hlt hG hps hpl
      go_wp2_with fail
      go_loopw [6] (fun v wz => ∃ u : Tx, v = .string (bs u) ∧ u.length ≤ 1024 ∧ pad 1024 u = G ∧ Below wr.heap.size wr wz) (fun v _ => 1024 - strZ v)
      case atStart => exact ⟨pre, rfl, hpre, HG.out, Below.refl _ _⟩
      case round =>
        obtain ⟨u, rfl, hu1, hpu, hbz⟩ := hrel
        have HPU := Lib.hid hpu
        have HBZ := Lib.hid hbz
        have hus : (bs u).size = u.length := rfl
        clear hpu hbz
        by_cases hl2 : u.length < 1024
        · have hl3 : (u.length : Int) < 1024 := by omega
          have g9 : ∀ W, (Op.stringOp .add (bs u) ⟨#[255]⟩).run Tryz.prog W = .ok (.string (bs u ++ ⟨#[255]⟩)) W := fun W => run_string_add_sum _ _ _ (by rw [hus]; show _ + 1 ≤ _; omega)
          rw [push255] at g9
          go_wp2_with fail
          go_roundw
          case rel => exact ⟨u ++ [255], rfl, by simp; omega, (pad_step hl2).trans HPU.out, HBZ.out⟩
          case measure => (simp only [strZ]; show _ - (u ++ [255]).length < _ - u.length; simp; omega)
        · have hl3 : ¬ (u.length : Int) < 1024 := by omega
          have HU := Lib.hid ((pad_full (show u.length = 1024 by omega)).symm.trans HPU.out)
          go_wp2_with fail
          go_ret2
          refine ⟨?_, H0.out.trans ((HB.out.trans (HBZ.out.mono HB.out.size)).mono H0.out.size)⟩
          rw [HII.out, HU.out]
          rfl

end Go.Proofs.YtjiedaialianmaaGreat
end

section

namespace Go.Proofs.YtjiedaialianmaaGreat
open Go.RowKit
open Gs (Tx)
open Gr (Tab)

theorem Tryz.infoBool : (Tryz.prog.info? 4).map (fun i => (i.zero, i.size, i.bytes)) = some (some (.bool false), 1, 1) := by kernel_rfl
theorem Tryz.infoBools : (Tryz.prog.info? 221).map (fun i => (i.zero, i.size, i.bytes)) = some (some (.slice none 0 0), 1, 24) := by kernel_rfl

/-- a table that lies in blocks from B0 on: block O has its rows' headers, block R i is row i -/
structure Mat (w : World) (B0 n O : Nat) (R C : Nat → Nat) (t : Tab) : Prop where
  row : ∀ i, i < n → w.cell? ⟨O, i, none⟩ = some (.slice (some ⟨R i, 0, none⟩) n (C i))
  cell : ∀ i k, i < n → k < n → w.cell? ⟨R i, k, none⟩ = some (.bool (t.at i k))
  free : ∀ i k, i < n → k < n → w.frozen? ⟨R i, k, none⟩ = false
  one : ∀ i k, i < n → k < n → R i = R k → i = k
  off : ∀ i, i < n → R i ≠ O ∧ B0 ≤ R i
  low : B0 ≤ O
  sq : t.sq n
section
variable {w w' : World} {B0 n O : Nat} {R C : Nat → Nat} {t : Tab}
theorem Mat.lt (h : Mat w B0 n O R C t) {i : Nat} (hi : i < n) : R i < w.heap.size := World.block_lt_of_cell? _ _ (h.cell i i hi hi)
theorem Mat.ltO (h : Mat w B0 n O R C t) {i : Nat} (hi : i < n) : O < w.heap.size := World.block_lt_of_cell? _ _ (h.row i hi)
theorem Mat.drewN (h : Mat w B0 n O R C t) (q : Nat) : Mat (w.drewN q) B0 n O R C t := ⟨h.row, h.cell, h.free, h.one, h.off, h.low, h.sq⟩
theorem Mat.drew (h : Mat w B0 n O R C t) : Mat w.drew B0 n O R C t := ⟨h.row, h.cell, h.free, h.one, h.off, h.low, h.sq⟩
theorem Mat.below {B : Nat} (h : Mat w B0 n O R C t) (hb : Below B w w') (hB : w.heap.size ≤ B) : Mat w' B0 n O R C t where
  row := fun i hi => (hb.cell (p := ⟨O, i, none⟩) (Nat.lt_of_lt_of_le (h.ltO hi) hB)).trans (h.row i hi)
  cell := fun i k hi hk => (hb.cell (p := ⟨R i, k, none⟩) (Nat.lt_of_lt_of_le (h.lt hi) hB)).trans (h.cell i k hi hk)
  free := fun i k hi hk => (hb.frozen (p := ⟨R i, k, none⟩) (Nat.lt_of_lt_of_le (h.lt hi) hB)).trans (h.free i k hi hk)
  one := h.one
  off := h.off
  low := h.low
  sq := h.sq
theorem Mat.store {i k : Nat} (h : Mat w B0 n O R C t) (hi : i < n) (hk : k < n) {v : Bool} {t' : Tab} (hs : t'.sq n) (ht : ∀ a b, t'.at a b = if a = i ∧ b = k then v else t.at a b) : Mat (w.setCell ⟨R i, k, none⟩ (.bool v)) B0 n O R C t' where
  row := fun a ha => by
    rw [World.cell?_setCell_far _ _ _ _ (show R i ≠ O from (h.off i hi).1)]
    exact h.row a ha
  cell := fun a b ha hb => by
    rw [ht]
    by_cases e : a = i ∧ b = k
    · obtain ⟨rfl, rfl⟩ := e
      rw [if_pos ⟨rfl, rfl⟩]
      exact World.cell?_setCell_same _ _ _ (h.cell a b ha hb)
    · rw [if_neg e, World.cell?_setCell_other _ _ _ _ (fun q => by
        injection q with q1 q2 _
        exact e ⟨(h.one i a hi ha q1).symm, q2.symm⟩)]
      exact h.cell a b ha hb
  free := fun a b ha hb => by rw [World.frozen?_setCell]; exact h.free a b ha hb
  one := h.one
  off := h.off
  low := h.low
  sq := hs
theorem Mat.fill {m i k : Nat} (h : Mat w B0 n O R C t) (hi : i < n) (hk : k < n) {v : Bool} (hv : v = (t.at i k || t.at i m && t.at m k)) : Mat (w.setCell ⟨R i, k, none⟩ (.bool v)) B0 n O R C (Tab.fill m i k t) :=
  h.store hi hk (Tab.fill_sq h.sq hi) (fun a b => by rw [Tab.fill_at h.sq hi hk, hv])
end
/-- a value that is such a table -/
def MatV (w : World) (B0 : Nat) (v : Value) (n : Nat) (t : Tab) : Prop := ∃ (A : Option Addr) (c : Nat), v = .slice A n c ∧ (0 < n → ∃ O R C, A = some ⟨O, 0, none⟩ ∧ Mat w B0 n O R C t)

/-- the turns of the three loops, so far -/
def tK (m i : Nat) (t : Tab) (k : Nat) : Tab := (List.range k).foldl (fun t k => Tab.fill m i k t) t
def tI (n m : Nat) (t : Tab) (i : Nat) : Tab := (List.range i).foldl (fun t i => Tab.row n m i t) t
def tM (n : Nat) (t : Tab) (m : Nat) : Tab := (List.range m).foldl (fun t m => Tab.phase n m t) t
theorem tK_succ (m i : Nat) (t : Tab) (k : Nat) : tK m i t (k + 1) = Tab.fill m i k (tK m i t k) := by unfold tK; rw [List.range_succ, List.foldl_append]; rfl
theorem tI_succ (n m : Nat) (t : Tab) (i : Nat) : tI n m t (i + 1) = tK m i (tI n m t i) n := by unfold tI; rw [List.range_succ, List.foldl_append]; rfl
theorem tM_succ (n : Nat) (t : Tab) (m : Nat) : tM n t (m + 1) = tI n m (tM n t m) n := by unfold tM; rw [List.range_succ, List.foldl_append]; rfl


theorem own_cell {w : World} {base g n c : Nat} {e : TypeId} {xs : List Value} (h : w.ownsRow base e 1 (.slice (some ⟨g, 0, none⟩) n c) n xs) :
    (∀ k u, xs[k]? = some u → w.cell? ⟨g, k, none⟩ = some u) ∧ (∀ k, w.frozen? ⟨g, k, none⟩ = false) ∧ base ≤ g ∧ g < w.heap.size := by
  have hl := World.ownsRow.lt h g rfl
  have hc := h.cells (g := g) rfl
  refine ⟨fun k u hu => ?_, fun k => ?_, hl.1, hl.2⟩
  · have := hc k u hu
    have e : (⟨g, 0, none⟩ : Addr).add k = ⟨g, k, none⟩ := by unfold Addr.add; split <;> simp_all
    rwa [e] at this
  · rcases h.2 with ⟨h0, _⟩ | ⟨g', cap, cur, hv, _, hb, _⟩
    · cases h0
    · injection hv with ha _ _
      injection ha with ha
      injection ha with ha _ _
      subst ha
      exact frozen_of_row _ _ _ _ _ hb
def BR (w : World) (base : Nat) (v : Value) (bl : List Bool) : Prop := w.ownsRow base 4 1 v bl.length (bl.map Value.bool)
theorem own_more {w : World} {base base' size n : Nat} {e : TypeId} {v : Value} {xs : List Value} (h : w.ownsRow base e size v n xs) (hB : base' ≤ base) : w.ownsRow base' e size v n xs := by
  refine ⟨h.1, ?_⟩
  rcases h.2 with h0 | ⟨g, cap, cur, e1, e2, e3⟩
  · exact .inl h0
  · exact .inr ⟨g, cap, cur, e1, by omega, e3⟩
theorem append_bool (W : World) {ops : Array Oper} {rest : List Oper} {o : Oper} {a : Act} {Q : Exit → Act → World → Prop} (hgd : o.guard = none) (s x : Operand)
    (ho : o.op = .call { callee := .builtin .append, args := #[s, x], argTypes := #[221, 221] }) (base : Nat) (v : Value) (ns : List Bool) (n : Bool) (hs : a.eval s = v)
    (hx : a.eval x = .slice (some ⟨W.heap.size, 0, none⟩) 1 1) (hown : BR W base v ns) (hl : ns.length ≤ 1000000) (hbase : base ≤ W.heap.size)
    (h : ∀ v' w', BR w' base v' (ns ++ [n]) → Below base W w' → wpList Tryz.prog ops Q rest (a.put o.dst v') w') : wpList Tryz.prog ops Q (o :: rest) a (W.alloc (.cells #[.bool n] 4)) := by
  obtain ⟨i0, hi, hz0, hz1, hz2⟩ := info_parts Tryz.infoBool
  refine wpList_append_own_at (W.alloc (.cells #[.bool n] 4)) hgd s x 221 ho base 4 i0 (.bool false) 1 1 Tryz.underlying221 hi hz0 hz1 hz2 rfl (by decide) v ns.length (ns.map Value.bool) hs (hown.alloc _) ⟨W.heap.size, 0, none⟩ 1 1 [.bool n] hx rfl
    (cell_one_new _ _ _) (by simp [Value.oneCell']) (by simp only [maxLen]; omega) (by omega) (by simp; omega) ?_
  intro v' w1 hown' hgrow _ _
  refine h v' w1 ?_ (((Below.refl base W).alloc hbase _).grown hgrow (by simp; omega) (own_base hown))
  unfold BR
  simpa using hown'
/-- the headers of some rows -/
def heads (n : Nat) (R C : Nat → Nat) (i : Nat) : List Value := (List.range i).map (fun a => .slice (some ⟨R a, 0, none⟩) n (C a))
theorem append_head (W : World) {ops : Array Oper} {rest : List Oper} {o : Oper} {a : Act} {Q : Exit → Act → World → Prop} (hgd : o.guard = none) (s x : Operand)
    (ho : o.op = .call { callee := .builtin .append, args := #[s, x], argTypes := #[219, 219] }) (base : Nat) (v : Value) (n i : Nat) (R C : Nat → Nat) (u : Value) (hu : u.oneCell' = true) (hs : a.eval s = v)
    (hx : a.eval x = .slice (some ⟨W.heap.size, 0, none⟩) 1 1) (hown : W.ownsRow base 221 1 v i (heads n R C i)) (hl : i ≤ 1000000) (hbase : base ≤ W.heap.size)
    (h : ∀ v' w', w'.ownsRow base 221 1 v' (i + 1) (heads n R C i ++ [u]) → W.grownBy w' v.ownBlock → (v'.ownBlock = v.ownBlock ∨ ∃ g, v'.ownBlock = some g ∧ W.heap.size ≤ g) → wpList Tryz.prog ops Q rest (a.put o.dst v') w') : wpList Tryz.prog ops Q (o :: rest) a (W.alloc (.cells #[u] 221)) := by
  obtain ⟨i0, hi, hz0, hz1, hz2⟩ := info_parts Tryz.infoBools
  refine wpList_append_own_at (W.alloc (.cells #[u] 221)) hgd s x 219 ho base 221 i0 (.slice none 0 0) 1 24 Tryz.underlying219 hi hz0 hz1 hz2 rfl (by decide) v i (heads n R C i) hs (hown.alloc _) ⟨W.heap.size, 0, none⟩ 1 1 [u] hx rfl
    (cell_one_new _ _ _) (by simp [hu]) (by simp only [maxLen]; omega) (by omega) (by simp; omega) ?_
  intro v' w1 hown' hgrow _ hnew
  refine h v' w1 hown' ((World.grownBy_alloc W _ _).trans hgrow) ?_
  rcases hnew with e | e
  · exact .inl e
  · exact .inr ⟨_, e, by simp⟩

theorem dirN_at {l : List Plc} {i k : Nat} (hi : i < l.length) (hk : k < l.length) : dirN l i k = asks l[i].m (tx l[k].m.name) := by
  unfold dirN
  rw [List.getElem?_eq_getElem hi]
  show asks l[i].m (nmN l k) = _
  rw [nmN_at hk]
def rowN (l : List Plc) (i k : Nat) : List Bool := (List.range k).map (dirN l i)
theorem rowN_length (l : List Plc) (i k : Nat) : (rowN l i k).length = k := by simp [rowN]
theorem rowN_succ (l : List Plc) (i k : Nat) : rowN l i (k + 1) = rowN l i k ++ [dirN l i k] := by unfold rowN; rw [List.range_succ, List.map_append]; rfl

/-- i rows are made -/
structure Outer (l : List Plc) (w : World) (v : Value) (i : Nat) (wr : World) : Prop where
  rows : ∃ R C : Nat → Nat, wr.ownsRow w.heap.size 221 1 v i (heads l.length R C i) ∧ (∀ a, a < i → BR wr w.heap.size (.slice (some ⟨R a, 0, none⟩) l.length (C a)) (rowN l a l.length)) ∧
    (∀ a b, a < i → b < i → R a = R b → a = b) ∧ (∀ a, a < i → v.ownBlock ≠ some (R a))
  bel : Below w.heap.size w wr
theorem Outer.start (l : List Plc) (w : World) : Outer l w (.slice none 0 0) 0 w := ⟨⟨fun _ => 0, fun _ => 0, World.ownsRow_nil _ _ _ _, fun _ h => by omega, fun _ _ h => by omega, fun _ h => by omega⟩, Below.refl _ _⟩
theorem Outer.mat {l : List Plc} {w wr : World} {v : Value} (h : Outer l w v l.length wr) : MatV wr w.heap.size v l.length (Tab.mk (dirN l) l.length) := by
  obtain ⟨R, C, ho, hr, h1, h2⟩ := h.rows
  obtain ⟨A, c, rfl⟩ := own_slice ho
  refine ⟨A, c, rfl, fun hn => ?_⟩
  obtain ⟨g, cap, hv, _⟩ := ho.form hn
  injection hv with hA _ hc
  subst hA hc
  obtain ⟨q1, q2, q3, q4⟩ := own_cell ho
  have hB : ∀ a, a < l.length → _ := fun a ha => own_cell (show wr.ownsRow w.heap.size 4 1 (.slice (some ⟨R a, 0, none⟩) l.length (C a)) l.length ((rowN l a l.length).map Value.bool) from by
    have := hr a ha; unfold BR at this; rwa [rowN_length] at this)
  refine ⟨g, R, C, rfl, fun i hi => q1 i _ (by simp [heads, hi]), fun i k hi hk => (hB i hi).1 k _ (by simp [rowN, Tab.mk_at _ hi hk, hk]), fun i k hi hk => (hB i hi).2.1 k, h1,
    fun i hi => ⟨fun e => h2 i hi (by simp [Value.ownBlock, e]), (hB i hi).2.2.1⟩, q3, Tab.mk_sq _ _⟩
theorem Outer.step {l : List Plc} {w wr w2 w3 : World} {v v' : Value} {i g c : Nat} {R C : Nat → Nat} (hbel : Below w.heap.size w wr) (ho : wr.ownsRow w.heap.size 221 1 v i (heads l.length R C i)) (hr : ∀ a, a < i → BR wr w.heap.size (.slice (some ⟨R a, 0, none⟩) l.length (C a)) (rowN l a l.length))
    (h1 : ∀ a b, a < i → b < i → R a = R b → a = b) (h2 : ∀ a, a < i → v.ownBlock ≠ some (R a)) (hb : Below wr.heap.size wr w2) (hg : BR w2 wr.heap.size (.slice (some ⟨g, 0, none⟩) l.length c) (rowN l i l.length))
    (hown : w3.ownsRow w.heap.size 221 1 v' (i + 1) (heads l.length R C i ++ [.slice (some ⟨g, 0, none⟩) l.length c])) (hgr : w2.grownBy w3 v.ownBlock) (hnew : v'.ownBlock = v.ownBlock ∨ ∃ q, v'.ownBlock = some q ∧ w2.heap.size ≤ q) : Outer l w v' (i + 1) w3 := by
  have hz := hbel.size
  have hgl := World.ownsRow.lt hg g rfl
  have hgr' : ∀ q, v.ownBlock = some q → w.heap.size ≤ q ∧ q < wr.heap.size := fun q hq => World.ownsRow.lt ho q hq
  have hvg : v.ownBlock ≠ some g := fun e => by have := (hgr' g e).2; omega
  refine ⟨⟨fun a => if a = i then g else R a, fun a => if a = i then c else C a, ?_, fun a ha => ?_, fun a b ha hb' e => ?_, fun a ha => ?_⟩, ?_⟩
  · have e : heads l.length (fun a => if a = i then g else R a) (fun a => if a = i then c else C a) (i + 1) = heads l.length R C i ++ [.slice (some ⟨g, 0, none⟩) l.length c] := by
      unfold heads
      rw [List.range_succ, List.map_append]
      congr 1
      · refine List.map_congr_left (fun a ha => ?_)
        have := List.mem_range.1 ha
        simp [show a ≠ i by omega]
      · simp
    rw [e]; exact hown
  · by_cases e : a = i
    · subst e
      simp only [if_true]
      exact (own_more hg hz).kept hgr (.inr (fun q => hvg q.symm))
    · simp only [if_neg e]
      have h3 := own_below (hr a (by omega)) hb (Nat.le_refl _)
      exact h3.kept hgr (.inr (fun q => h2 a (by omega) q.symm))
  · have hlt : ∀ a, a < i → R a < wr.heap.size := fun a ha => (World.ownsRow.lt (hr a ha) (R a) rfl).2
    dsimp only at e
    by_cases ea : a = i <;> by_cases eb : b = i
    · omega
    · rw [if_pos ea, if_neg eb] at e; have := hlt b (by omega); omega
    · rw [if_neg ea, if_pos eb] at e; have := hlt a (by omega); omega
    · rw [if_neg ea, if_neg eb] at e; exact h1 a b (by omega) (by omega) e
  · have hlt : ∀ a, a < i → R a < wr.heap.size := fun a ha => (World.ownsRow.lt (hr a ha) (R a) rfl).2
    have hs := hb.size
    rcases hnew with en | ⟨q, en, hq⟩
    · rw [en]
      by_cases ea : a = i
      · simp only [if_pos ea]; exact hvg
      · simp only [if_neg ea]; exact h2 a (by omega)
    · rw [en]
      by_cases ea : a = i
      · simp only [if_pos ea]; intro e; injection e with e; omega
      · simp only [if_neg ea]; intro e; injection e with e; have := hlt a (by omega); omega
  · exact (hbel.trans (hb.mono hz)).grown hgr (by have := hb.size; omega) (fun q hq => (hgr' q hq).1)

end Go.Proofs.YtjiedaialianmaaGreat
end

section

namespace Go.Proofs.YtjiedaialianmaaGreat
open Go.RowKit
open Gs (Tx)
open Gr (Tab)

theorem tabOf_eq (l : List Plc) : tM l.length (Tab.mk (dirN l) l.length) l.length = tabOf l := rfl

set_option maxHeartbeats 4000000 in
set_option maxRecDepth 100000 in
theorem Reach_any (A : Option Addr) (c : Nat) (l : List Plc) (w : World) (h : PlsOk w A l) (h8 : l.length ≤ 8) :
    Calls Tryz.prog 176 #[.slice A l.length c] w fun e w' => (∃ v, e = .returned v ∧ MatV w' w.heap.size v l.length (tabOf l)) ∧ Below w.heap.size w w' := by
  have HP := Lib.hid h
  clear h
  go_enter Tryz.func176, Tryz.ntmps176
  go_wp2_with fail
  go_loopw [3, 4] (fun v i wr => ∃ j : Nat, j ≤ l.length ∧ i = .int .i64 j ∧ Outer l w v j wr) (fun _ i _ => l.length - (intOf i).toNat)
  case atStart => exact ⟨0, by omega, rfl, Outer.start l w⟩
  case round =>
    obtain ⟨j, hj, rfl, hO⟩ := hrel
    have HO := Lib.hid hO
    obtain ⟨wo, hwo⟩ : ∃ wo : World, wo = wr := ⟨_, rfl⟩
    subst hwo
    clear hO
    by_cases hlt : j < l.length
    · have hlt' : (j : Int) < l.length := by omega
      go_wp2_with fail
      go_loopw [5, 6] (fun v5 i wr => ∃ k : Nat, k ≤ l.length ∧ i = .int .i64 k ∧ BR wr wo.heap.size v5 (rowN l j k) ∧ Below wo.heap.size wo wr) (fun _ i _ => l.length - (intOf i).toNat)
      case atStart => exact ⟨0, by omega, rfl, World.ownsRow_nil _ _ _ _, Below.refl _ _⟩
      case round =>
        obtain ⟨k, hk, rfl, hB, hb⟩ := hrel
        have HB := Lib.hid hB
        have HW := Lib.hid hb
        have hwz := hb.size
        by_cases hkl : k < l.length
        · have hkl' : (k : Int) < l.length := by omega
          have hD := Direct_any A c l j k wr (HP.out.below (HO.out.bel.trans (hb.mono HO.out.bel.size))) hlt hkl
          rw [← dirN_at hlt hkl] at hD
          have e1 := Lib.hid (rowN_succ l j k)
          have HL := Lib.hid (show (rowN l j k).length ≤ 1000000 by rw [rowN_length]; omega)
          generalize dirN l j k = d at *
          have c1 := Lib.hid hD
          clear hD hB hb
          go_wp2_with (first
            | (go_at_call 109; refine (c1.out).mono ?_; rintro e w3 ⟨rfl, hb3⟩
               have HB3 := Lib.hid (own_below HB.out hb3 (Nat.le_refl _))
               have HW3 := Lib.hid (HW.out.trans (hb3.mono hwz))
               have HZ3 := Lib.hid (Nat.le_trans hwz hb3.size)
               clear hb3)
            | (at_builtin; refine append_bool w3 rfl _ _ rfl wo.heap.size _ (rowN l j k) d rfl rfl (by exact HB3.out) HL.out HZ3.out ?_; intro v' w4 ht4 hb4
               have HB4 := Lib.hid ht4
               have HW4 := Lib.hid (HW3.out.trans hb4)
               clear ht4 hb4))
          go_roundw
          case rel => exact ⟨k + 1, by omega, by go_num, by rw [e1.out]; exact HB4.out, HW4.out⟩
          case measure => (simp [intOf]; try omega)
        · obtain rfl : k = l.length := by omega
          obtain ⟨g, cap, hv, _⟩ := (show wr.ownsRow wo.heap.size 4 1 _ l.length ((rowN l j l.length).map Value.bool) from by have := hB; unfold BR at this; rwa [rowN_length] at this).form (by omega)
          subst hv
          obtain ⟨R, C, ho, hr, hi1, hi2⟩ := HO.out.rows
          have HO1 := Lib.hid ho
          have HR1 := Lib.hid hr
          have HI1 := Lib.hid hi1
          have HI2 := Lib.hid hi2
          have HO2 := Lib.hid (own_below ho hb (Nat.le_refl _))
          have HZ := Lib.hid (Nat.le_trans HO.out.bel.size hwz)
          have HJ := Lib.hid (show j ≤ 1000000 by omega)
          clear hB hb ho hr hi1 hi2
          go_wp2_with (at_builtin; refine append_head wr rfl _ _ rfl w.heap.size _ l.length j R C _ rfl rfl rfl (by exact HO2.out) HJ.out HZ.out ?_; intro v' w4 ho4 hg4 hn4; have HO4 := Lib.hid ho4; have HG4 := Lib.hid hg4; have HN4 := Lib.hid hn4; clear ho4 hg4 hn4)
          go_roundw
          case rel => exact ⟨j + 1, by omega, by go_num, Outer.step HO.out.bel HO1.out HR1.out HI1.out HI2.out HW.out HB.out HO4.out HG4.out HN4.out⟩
          case measure => (simp [intOf]; try omega)
    · obtain rfl : j = l.length := by omega
      obtain ⟨A', c', rfl, hM⟩ := HO.out.mat
      have HBL := Lib.hid HO.out.bel
      by_cases hn : l.length = 0
      · have HN := Lib.hid hn
        clear hM hlt hn
        go_wp2_with fail
        go_loopw [7] (fun i wr => ∃ m : Nat, m ≤ l.length ∧ i = .int .i64 m ∧ Below w.heap.size w wr) (fun i _ => l.length - (intOf i).toNat)
        case atStart => exact ⟨0, by omega, rfl, HBL.out⟩
        case round =>
          obtain ⟨m, hm, rfl, hb⟩ := hrel
          obtain rfl : m = l.length := by have := HN.out; omega
          have HB := Lib.hid hb
          clear hb
          go_wp2_with fail
          go_ret
          exact ⟨⟨_, rfl, A', c', rfl, fun h => absurd HN.out (by omega)⟩, HB.out⟩
      · obtain ⟨O, R, C, rfl, hm0⟩ := hM (by omega)
        have HM0 := Lib.hid hm0
        have HE := Lib.hid (tabOf_eq l)
        clear hM hm0 hlt
        obtain ⟨t0, ht0⟩ : ∃ t0, t0 = Tab.mk (dirN l) l.length := ⟨_, rfl⟩
        rw [← ht0] at HM0 HE
        obtain ⟨n, hnl⟩ : ∃ n, n = l.length := ⟨_, rfl⟩
        clear ht0
        go_wp2_with fail
        go_loopw [7] (fun i wr => ∃ m : Nat, m ≤ l.length ∧ i = .int .i64 m ∧ Mat wr w.heap.size l.length O R C (tM l.length t0 m) ∧ Below w.heap.size w wr) (fun i _ => l.length - (intOf i).toNat)
        case atStart => exact ⟨0, by omega, rfl, HM0.out, HBL.out⟩
        case round =>
          obtain ⟨m, hm, rfl, hM1, hb1⟩ := hrel
          have HM1 := Lib.hid hM1
          have HB1 := Lib.hid hb1
          have TM := Lib.hid (tM_succ l.length t0 m)
          obtain ⟨w1, hw1⟩ : ∃ w1 : World, w1 = wr := ⟨_, rfl⟩
          subst hw1
          clear hM1 hb1
          by_cases hml : m < l.length
          · have hml' : (m : Int) < l.length := by omega
            generalize tM l.length t0 m = t1 at *
            go_wp2_with fail
            go_loopw [8] (fun i wr => ∃ q : Nat, q ≤ l.length ∧ i = .int .i64 q ∧ Mat wr w.heap.size l.length O R C (tI l.length m t1 q) ∧ Below w.heap.size w wr) (fun i _ => l.length - (intOf i).toNat)
            case atStart => exact ⟨0, by omega, rfl, HM1.out, HB1.out⟩
            case round =>
              obtain ⟨q, hq, rfl, hM2, hb2⟩ := hrel
              have HM2 := Lib.hid hM2
              have HB2 := Lib.hid hb2
              have TI := Lib.hid (tI_succ l.length m t1 q)
              obtain ⟨w2, hw2⟩ : ∃ w2 : World, w2 = wr := ⟨_, rfl⟩
              subst hw2
              clear hM2 hb2
              by_cases hql : q < l.length
              · have hql' : (q : Int) < l.length := by omega
                generalize tI l.length m t1 q = t2 at *
                go_wp2_with fail
                go_loopw [9] (fun i wr => ∃ k : Nat, k ≤ l.length ∧ i = .int .i64 k ∧ Mat wr w.heap.size l.length O R C (tK m q t2 k) ∧ Below w.heap.size w wr) (fun i _ => l.length - (intOf i).toNat)
                case atStart => exact ⟨0, by omega, rfl, HM2.out, HB2.out⟩
                case round =>
                  obtain ⟨k, hk, rfl, hM3, hb3⟩ := hrel
                  have HM3 := Lib.hid hM3
                  have HB3 := Lib.hid hb3
                  have TK := Lib.hid (tK_succ m q t2 k)
                  clear hM3 hb3
                  by_cases hkl : k < l.length
                  · have hkl' : (k : Int) < l.length := by omega
                    generalize tK m q t2 k = t3 at *
                    have a1 := HM3.out.row q hql
                    have a2 := HM3.out.cell q k hql hkl
                    have a3 := HM3.out.cell q m hql hml
                    have a4 := HM3.out.row m hml
                    have a5 := HM3.out.cell m k hml hkl
                    have a6 := HM3.out.free q k hql hkl
                    have HO3 := Lib.hid (HM3.out.off q hql)
                    have HF := Lib.hid (fun v hv => HM3.out.fill (m := m) hql hkl (v := v) hv)
                    obtain ⟨Rq, hRq⟩ : ∃ Rq, Rq = R q := ⟨_, rfl⟩
                    obtain ⟨Rm, hRm⟩ : ∃ Rm, Rm = R m := ⟨_, rfl⟩
                    rw [← hRq] at a1 a2 a3 a6 HO3 HF
                    rw [← hRm] at a4 a5
                    obtain ⟨b1, hb1⟩ : ∃ b1, b1 = t3.at q k := ⟨_, rfl⟩
                    obtain ⟨b2, hb2⟩ : ∃ b2, b2 = t3.at q m := ⟨_, rfl⟩
                    obtain ⟨b3, hb3⟩ : ∃ b3, b3 = t3.at m k := ⟨_, rfl⟩
                    rw [← hb1] at a2 HF
                    rw [← hb2] at a3 HF
                    rw [← hb3] at a5 HF
                    clear hb1 hb2 hb3 hRq hRm
                    go_wp2_with fail
                    cases b1
                    · cases b2
                      · go_big_region
                        go_wp2_with fail
                        go_roundw
                        case rel => exact ⟨k + 1, by omega, by go_num, by rw [TK.out]; exact (HF.out false (by simp)).drew, (HB3.out.setCell (p := ⟨Rq, k, none⟩) HO3.out.2 _).drew⟩
                        case measure => (simp [intOf]; try omega)
                      · cases b3
                        · go_big_region
                          go_wp2_with fail
                          go_roundw
                          case rel => exact ⟨k + 1, by omega, by go_num, by rw [TK.out]; exact (HF.out false (by simp)).drew, (HB3.out.setCell (p := ⟨Rq, k, none⟩) HO3.out.2 _).drew⟩
                          case measure => (simp [intOf]; try omega)
                        · go_big_region
                          go_wp2_with fail
                          go_roundw
                          case rel => exact ⟨k + 1, by omega, by go_num, by rw [TK.out]; exact (HF.out true (by simp)).drew, (HB3.out.setCell (p := ⟨Rq, k, none⟩) HO3.out.2 _).drew⟩
                          case measure => (simp [intOf]; try omega)
                    · go_big_region
                      go_wp2_with fail
                      go_roundw
                      case rel => exact ⟨k + 1, by omega, by go_num, by rw [TK.out]; exact (HF.out true (by simp)).drew, (HB3.out.setCell (p := ⟨Rq, k, none⟩) HO3.out.2 _).drew⟩
                      case measure => (simp [intOf]; try omega)
                  · obtain rfl : k = l.length := by omega
                    go_wp2_with fail
                    go_roundw
                    case rel => exact ⟨q + 1, by omega, by go_num, by rw [TI.out]; exact HM3.out, HB3.out⟩
                    case measure => (simp [intOf]; try omega)
              · obtain rfl : q = l.length := by omega
                go_wp2_with fail
                go_roundw
                case rel => exact ⟨m + 1, by omega, by go_num, by rw [TM.out]; exact HM2.out, HB2.out⟩
                case measure => (simp [intOf]; try omega)
          · obtain rfl : m = l.length := by omega
            go_wp2_with fail
            go_ret
            exact ⟨⟨_, rfl, _, _, rfl, fun _ => ⟨O, R, C, rfl, by rw [← HE.out]; exact HM1.out⟩⟩, HB1.out⟩

end Go.Proofs.YtjiedaialianmaaGreat
end

section

namespace Go.Proofs.YtjiedaialianmaaGreat
open Go.RowKit
open Gs (Tx)
open Gr (Tab)

/-- a cell of such a table, as the walk reads it -/
theorem Mat.get {w : World} {B0 n O : Nat} {R C : Nat → Nat} {t : Tab} (h : Mat w B0 n O R C t) {i k : Nat} (hi : i < n) (hk : k < n) :
    ∃ Ri Ci, w.cell? ⟨O, i, none⟩ = some (.slice (some ⟨Ri, 0, none⟩) n Ci) ∧ w.cell? ⟨Ri, k, none⟩ = some (.bool (t.at i k)) := ⟨R i, C i, h.row i hi, h.cell i k hi hk⟩

set_option maxHeartbeats 2000000 in
set_option maxRecDepth 100000 in
theorem IsRound_any (A : Option Addr) (c : Nat) (l : List Plc) (w : World) (h : PlsOk w A l) (h8 : l.length ≤ 8) :
    Calls Tryz.prog 102 #[.slice A l.length c] w fun e w' => e = .returned (.bool (isRound l)) ∧ Below w.heap.size w w' := by
  have c1 := Lib.hid (Reach_any A c l w h h8)
  have HR := Lib.hid (show isRound l = (List.range l.length).any (fun i => (tabOf l).at i i) from rfl)
  generalize isRound l = R0 at *
  generalize tabOf l = t at *
  clear h
  go_enter Tryz.func102, Tryz.ntmps102
  go_wp2_with (go_at_call 176; refine (c1.out).mono ?_; rintro e w2 ⟨⟨v, rfl, A2, c2, rfl, hM⟩, hb2⟩; have HM := Lib.hid hM; have HB := Lib.hid hb2; clear hM hb2)
  go_loopw [4] (fun i wr => ∃ j : Nat, j ≤ l.length ∧ i = .int .i64 j ∧ (∀ k, k < j → t.at k k = false) ∧ wr = w2) (fun i _ => l.length - (intOf i).toNat)
  case atStart => exact ⟨0, by omega, rfl, by omega, rfl⟩
  case round =>
    obtain ⟨j, hj, rfl, hN, rfl⟩ := hrel
    have HN := Lib.hid hN
    clear hN
    by_cases hlt : j < l.length
    · have hlt' : (j : Int) < l.length := by omega
      obtain ⟨O, R, C, rfl, hm⟩ := HM.out (by omega)
      obtain ⟨Ri, Ci, m1, m2⟩ := hm.get hlt hlt
      obtain ⟨b, hb⟩ : ∃ b, b = t.at j j := ⟨_, rfl⟩
      rw [← hb] at m2
      have HBB := Lib.hid hb
      clear hm hb
      cases b
      · go_wp2_with fail
        go_roundw
        case rel => exact ⟨j + 1, by omega, by go_num, fun k hk => by rcases Nat.lt_succ_iff_lt_or_eq.1 hk with h | rfl; exact HN.out k h; exact HBB.out.symm, trivial⟩
        case measure => (simp [intOf]; try omega)
      · have e1 := Lib.hid (show R0 = true by rw [HR.out]; exact List.any_eq_true.2 ⟨j, List.mem_range.2 hlt, HBB.out.symm⟩)
        go_wp2_with fail
        go_ret
        exact ⟨ret_bool e1.out.symm, HB.out⟩
    · have e1 := Lib.hid (show R0 = false by
        rw [HR.out, List.any_eq_false]
        intro k hk
        have := List.mem_range.1 hk
        rw [HN.out k (by omega)]; simp)
      go_wp2_with fail
      go_ret
      exact ⟨ret_bool e1.out.symm, HB.out⟩

end Go.Proofs.YtjiedaialianmaaGreat
end

section

namespace Go.Proofs.YtjiedaialianmaaGreat
open Go.RowKit
open Gs (Tx)

/-- a registry's value -/
abbrev rgV (k : Krn) (A : Option Addr) (l : List Plc) (c : Nat) : Value := .agg #[.int .i64 k.major, .int .i64 k.minor, .slice k.eA k.ex.length k.eC, .slice A l.length c]

theorem sorted_bool (A : Option Addr) (c : Nat) (l : List Plc) (w : World) (h : PlsOk w A l) (h8 : l.length ≤ 8) {b : Bool} (hb : (sortedT l).isSome = b) :
    Calls Tryz.prog 87 #[.slice A l.length c] w fun e w' => (∃ sv, e = .returned (.tuple #[sv, .bool b])) ∧ Below w.heap.size w w' :=
  (Sorted_any A c l w h h8).mono fun e w' ⟨⟨v, h1, _⟩, hB⟩ => ⟨⟨v, by rw [h1, hb]⟩, hB⟩
set_option maxHeartbeats 4000000 in
set_option maxRecDepth 100000 in
theorem RegCheck_any (k : Krn) (A : Option Addr) (c : Nat) (l : List Plc) (w : World) (hk : k.ok w) (h : PlsOk w A l) :
    Calls Tryz.prog 23 #[rgV k A l c] w fun e w' => e = .returned (.int .i64 (rgErr k l)) ∧ Below w.heap.size w w' := by
  obtain ⟨w0, hw0⟩ : ∃ w0, w0 = w.alloc (.cells #[.int .i64 k.major, .int .i64 k.minor, .slice k.eA k.ex.length k.eC, .slice A l.length c] 39) := ⟨_, rfl⟩
  obtain ⟨g0, g1, g2, g3, hz, hb0⟩ := box4 hw0
  have hz0 : w.heap.size < w0.heap.size := by omega
  have H0 := Lib.hid hb0
  have hw0' := hw0.symm
  have c1 := Lib.hid (fun W (hb : Below w.heap.size w W) => LCheck_any k A c l W (hk.below hb) (h.below hb))
  have c2 := Lib.hid (fun (e : linkErr k l = 0) W (hb : Below w.heap.size w W) => sorted_bool A c l W (h.below hb) (reg_row (linkErr_ok e).2.1).1 (link_sorted e))
  have c3 := Lib.hid (fun W (hb : Below w.heap.size w W) => Area_any k A c l W (hk.below hb) (h.below hb))
  have hE3 : linkErr k l = 0 → areaErr k l = (areaGo k l l 0).2 := fun e => by unfold areaErr; rw [if_neg (by omega)]
  obtain ⟨E, hE⟩ : ∃ E, E = rgErr k l := ⟨_, rfl⟩
  rw [← hE]
  unfold rgErr at hE
  obtain ⟨T, hT⟩ : ∃ T, T = bs (areaT k l) := ⟨_, rfl⟩
  simp only [← hT] at c3
  clear hw0 hb0 hk h hT
  generalize linkErr k l = le at *
  by_cases t1 : le = 0
  · subst t1
    have d2 := Lib.hid (c2.out rfl)
    clear c2
    have hE3 := hE3 rfl
    rw [if_neg (by omega)] at hE
    rw [hE3] at c3
    clear hE3
    generalize isRound l = rd at *
    generalize (areaGo k l l 0).2 = ae at *
    cases rd
    · rw [if_neg (by simp)] at hE
      rw [Bool.not_false] at d2
      go_enter Tryz.func23, Tryz.ntmps23
      go_wp2_with (first
        | (go_at_call 86; (with_reducible refine (c1.out _ H0.out).mono ?_); rintro e w1 ⟨rfl, hb1⟩
           have HB1 := Lib.hid (H0.out.trans (hb1.mono H0.out.size))
           have k0 := (hb1.cell (p := ⟨w.heap.size, 0, none⟩) hz0).trans g0
           have k1 := (hb1.cell (p := ⟨w.heap.size, 1, none⟩) hz0).trans g1
           have k2 := (hb1.cell (p := ⟨w.heap.size, 2, none⟩) hz0).trans g2
           have k3 := (hb1.cell (p := ⟨w.heap.size, 3, none⟩) hz0).trans g3
           have hz1 : w.heap.size < w1.heap.size := (by have := hb1.size; omega)
           clear hb1)
        | (go_at_call 87; (with_reducible refine (d2.out _ HB1.out).mono ?_); rintro e w2 ⟨⟨sv, rfl⟩, hb2⟩
           have HB2 := Lib.hid (HB1.out.trans (hb2.mono HB1.out.size))
           have m0 := (hb2.cell (p := ⟨w.heap.size, 0, none⟩) hz1).trans k0
           have m1 := (hb2.cell (p := ⟨w.heap.size, 1, none⟩) hz1).trans k1
           have m2 := (hb2.cell (p := ⟨w.heap.size, 2, none⟩) hz1).trans k2
           have m3 := (hb2.cell (p := ⟨w.heap.size, 3, none⟩) hz1).trans k3
           clear hb2)
        | (go_at_call 24; (with_reducible refine (c3.out _ HB2.out).mono ?_); rintro e w3 ⟨rfl, hb3⟩))
      go_ret
      exact ⟨ret_int hE.symm, HB2.out.trans (hb3.mono HB2.out.size)⟩
    · rw [if_pos rfl] at hE
      rw [Bool.not_true] at d2
      go_enter Tryz.func23, Tryz.ntmps23
      go_wp2_with (first
        | (go_at_call 86; (with_reducible refine (c1.out _ H0.out).mono ?_); rintro e w1 ⟨rfl, hb1⟩
           have HB1 := Lib.hid (H0.out.trans (hb1.mono H0.out.size))
           have k0 := (hb1.cell (p := ⟨w.heap.size, 0, none⟩) hz0).trans g0
           have k1 := (hb1.cell (p := ⟨w.heap.size, 1, none⟩) hz0).trans g1
           have k2 := (hb1.cell (p := ⟨w.heap.size, 2, none⟩) hz0).trans g2
           have k3 := (hb1.cell (p := ⟨w.heap.size, 3, none⟩) hz0).trans g3
           have hz1 : w.heap.size < w1.heap.size := (by have := hb1.size; omega)
           clear hb1)
        | (go_at_call 87; (with_reducible refine (d2.out _ HB1.out).mono ?_); rintro e w2 ⟨⟨sv, rfl⟩, hb2⟩))
      go_ret
      exact ⟨ret_int hE.symm, HB1.out.trans (hb2.mono HB1.out.size)⟩
  · rw [if_pos t1] at hE
    have t1' : (le != 0) = true := by simp [t1]
    clear t1 c2 c3 hE3
    go_enter Tryz.func23, Tryz.ntmps23
    go_wp2_with (go_at_call 86; (with_reducible refine (c1.out _ H0.out).mono ?_); rintro e w1 ⟨rfl, hb1⟩)
    go_ret
    exact ⟨ret_int hE.symm, H0.out.trans (hb1.mono H0.out.size)⟩

set_option maxHeartbeats 4000000 in
set_option maxRecDepth 100000 in
theorem CheckRegistry_any (k : Krn) (A : Option Addr) (c : Nat) (l : List Plc) (w : World) (hk : k.ok w) (h : PlsOk w A l) :
    Calls Tryz.prog 38 #[rgV k A l c] w fun e w' => e = .returned (.int .i64 (rgErr k l)) ∧ Below w.heap.size w w' := by
  obtain ⟨w0, hw0⟩ : ∃ w0, w0 = w.alloc (.cells #[.int .i64 k.major, .int .i64 k.minor, .slice k.eA k.ex.length k.eC, .slice A l.length c] 39) := ⟨_, rfl⟩
  obtain ⟨g0, g1, g2, g3, hz, hb0⟩ := box4 hw0
  have hz0 : w.heap.size < w0.heap.size := by omega
  have H0 := Lib.hid hb0
  have hw0' := hw0.symm
  have c1 := Lib.hid (fun W (hb : Below w.heap.size w W) => CheckLink_any k A c l W (hk.below hb) (h.below hb))
  have c2 := Lib.hid (fun (e : linkErr k l = 0) W (hb : Below w.heap.size w W) => IsRound_any A c l W (h.below hb) (reg_row (linkErr_ok e).2.1).1)
  have c3 := Lib.hid (fun (e : linkErr k l = 0) W (hb : Below w.heap.size w W) => AreaOf_any k A c l W (hk.below hb) (h.below hb) e)
  have hE3 : linkErr k l = 0 → areaErr k l = (areaGo k l l 0).2 := fun e => by unfold areaErr; rw [if_neg (by omega)]
  obtain ⟨E, hE⟩ : ∃ E, E = rgErr k l := ⟨_, rfl⟩
  rw [← hE]
  unfold rgErr at hE
  obtain ⟨T, hT⟩ : ∃ T, T = bs (areaT k l) := ⟨_, rfl⟩
  simp only [← hT] at c3
  clear hw0 hb0 hk h hT
  generalize linkErr k l = le at *
  by_cases t1 : le = 0
  · subst t1
    have d2 := Lib.hid (c2.out rfl)
    clear c2
    have d3 := Lib.hid (c3.out rfl)
    clear c3
    have hE3 := hE3 rfl
    rw [if_neg (by omega)] at hE
    rw [hE3] at d3
    clear hE3
    generalize isRound l = rd at *
    generalize (areaGo k l l 0).2 = ae at *
    cases rd
    · rw [if_neg (by simp)] at hE
      go_enter Tryz.func38, Tryz.ntmps38
      go_wp2_with (first
        | (go_at_call 101; (with_reducible refine (c1.out _ H0.out).mono ?_); rintro e w1 ⟨rfl, hb1⟩
           have HB1 := Lib.hid (H0.out.trans (hb1.mono H0.out.size))
           have k0 := (hb1.cell (p := ⟨w.heap.size, 0, none⟩) hz0).trans g0
           have k1 := (hb1.cell (p := ⟨w.heap.size, 1, none⟩) hz0).trans g1
           have k2 := (hb1.cell (p := ⟨w.heap.size, 2, none⟩) hz0).trans g2
           have k3 := (hb1.cell (p := ⟨w.heap.size, 3, none⟩) hz0).trans g3
           have hz1 : w.heap.size < w1.heap.size := (by have := hb1.size; omega)
           clear hb1)
        | (go_at_call 102; (with_reducible refine (d2.out _ HB1.out).mono ?_); rintro e w2 ⟨rfl, hb2⟩
           have HB2 := Lib.hid (HB1.out.trans (hb2.mono HB1.out.size))
           have m0 := (hb2.cell (p := ⟨w.heap.size, 0, none⟩) hz1).trans k0
           have m1 := (hb2.cell (p := ⟨w.heap.size, 1, none⟩) hz1).trans k1
           have m2 := (hb2.cell (p := ⟨w.heap.size, 2, none⟩) hz1).trans k2
           have m3 := (hb2.cell (p := ⟨w.heap.size, 3, none⟩) hz1).trans k3
           clear hb2)
        | (go_at_call 103; (with_reducible refine (d3.out _ HB2.out).mono ?_); rintro e w3 ⟨rfl, hb3⟩))
      go_ret
      exact ⟨ret_int hE.symm, HB2.out.trans (hb3.mono HB2.out.size)⟩
    · rw [if_pos rfl] at hE
      go_enter Tryz.func38, Tryz.ntmps38
      go_wp2_with (first
        | (go_at_call 101; (with_reducible refine (c1.out _ H0.out).mono ?_); rintro e w1 ⟨rfl, hb1⟩
           have HB1 := Lib.hid (H0.out.trans (hb1.mono H0.out.size))
           have k0 := (hb1.cell (p := ⟨w.heap.size, 0, none⟩) hz0).trans g0
           have k1 := (hb1.cell (p := ⟨w.heap.size, 1, none⟩) hz0).trans g1
           have k2 := (hb1.cell (p := ⟨w.heap.size, 2, none⟩) hz0).trans g2
           have k3 := (hb1.cell (p := ⟨w.heap.size, 3, none⟩) hz0).trans g3
           have hz1 : w.heap.size < w1.heap.size := (by have := hb1.size; omega)
           clear hb1)
        | (go_at_call 102; (with_reducible refine (d2.out _ HB1.out).mono ?_); rintro e w2 ⟨rfl, hb2⟩))
      go_ret
      exact ⟨ret_int hE.symm, HB1.out.trans (hb2.mono HB1.out.size)⟩
  · rw [if_pos t1] at hE
    have t1' : (le == 0) = false := by simp [t1]
    clear t1 c2 c3 hE3
    go_enter Tryz.func38, Tryz.ntmps38
    go_wp2_with (go_at_call 101; (with_reducible refine (c1.out _ H0.out).mono ?_); rintro e w1 ⟨rfl, hb1⟩)
    go_ret
    exact ⟨ret_int hE.symm, H0.out.trans (hb1.mono H0.out.size)⟩

end Go.Proofs.YtjiedaialianmaaGreat
end

section

open Go
namespace Go.Proofs.YtjiedaialianmaaGreat

def encName (s : ByteArray) : List UInt8 := digits s.size 1 ++ s.data.toList
def encExp (x : Exp) : List UInt8 := encName x.name ++ digits x.at_ 2
def encImp (x : Imp) : List UInt8 := encName x.mod ++ encName x.name ++ digits x.major 1 ++ digits x.minor 1
def encPat (p : Pat) : List UInt8 := digits p.kind 1 ++ digits p.at_ 2 ++ digits (p.sym + 1) 1 ++ digits p.add 2
def encHead (m : Mod) : List UInt8 := encName m.name ++ digits m.major 1 ++ digits m.minor 1 ++ digits m.text.size 2 ++ m.text.data.toList
def encMod (m : Mod) : List UInt8 := encHead m ++ digits m.ex.length 1 ++ m.ex.flatMap encExp ++ digits m.im.length 1 ++ m.im.flatMap encImp ++ digits m.pa.length 1 ++ m.pa.flatMap encPat
end Go.Proofs.YtjiedaialianmaaGreat
end

section

open Go
namespace Go.Proofs.YtjiedaialianmaaGreat

abbrev Rest := Option (List UInt8)
def txt (n : Nat) : Rest → List UInt8 × Rest
  | none => ([], none)
  | some s => if s.length < n then ([], none) else (s.take n, some (s.drop n))
def numb (k : Nat) (st : Rest) : Int × Rest := (num (txt k st).1, (txt k st).2)
def nam (st : Rest) : List UInt8 × Rest := txt (numb 1 st).1.toNat (numb 1 st).2
def left : Rest → List UInt8
  | none => []
  | some s => s
/-- something as often as it is asked, as long as there is enough -/
def reps {α : Type} (f : Rest → α × Rest) : Nat → Rest → List α × Rest
  | 0, st => ([], st)
  | _ + 1, none => ([], none)
  | n + 1, some s => ((f (some s)).1 :: (reps f n (f (some s)).2).1, (reps f n (f (some s)).2).2)
abbrev sof (l : List UInt8) : ByteArray := ⟨l.toArray⟩
def decExp (st : Rest) : Exp × Rest := (⟨sof (nam st).1, (numb 2 (nam st).2).1⟩, (numb 2 (nam st).2).2)
def decImp (st : Rest) : Imp × Rest :=
  let a := nam st
  let b := nam a.2
  let c := numb 1 b.2
  let d := numb 1 c.2
  (⟨sof a.1, sof b.1, c.1, d.1⟩, d.2)
def decPat (st : Rest) : Pat × Rest :=
  let a := numb 1 st
  let b := numb 2 a.2
  let c := numb 1 b.2
  let d := numb 2 c.2
  (⟨a.1, b.1, c.1 - 1, d.1⟩, d.2)
def d0 (l : List UInt8) := nam (some l)
def d1 (l : List UInt8) := numb 1 (d0 l).2
def d2 (l : List UInt8) := numb 1 (d1 l).2
def d3 (l : List UInt8) := numb 2 (d2 l).2
def d4 (l : List UInt8) := txt (d3 l).1.toNat (d3 l).2
def d5 (l : List UInt8) := reps decExp (numb 1 (d4 l).2).1.toNat (numb 1 (d4 l).2).2
def d6 (l : List UInt8) := reps decImp (numb 1 (d5 l).2).1.toNat (numb 1 (d5 l).2).2
def d7 (l : List UInt8) := reps decPat (numb 1 (d6 l).2).1.toNat (numb 1 (d6 l).2).2
/-- two modules tell the same, wherever their rows lie -/
structure SameC (a b : Mod) : Prop where
  name : a.name = b.name
  major : a.major = b.major
  minor : a.minor = b.minor
  text : a.text = b.text
  ex : a.ex = b.ex
  im : a.im = b.im
  pa : a.pa = b.pa
theorem SameC.enc {a b : Mod} (h : SameC a b) : encMod a = encMod b := by
  unfold encMod encHead
  rw [h.name, h.major, h.minor, h.text, h.ex, h.im, h.pa]
end Go.Proofs.YtjiedaialianmaaGreat
end

section

namespace Go.Proofs.YtjiedaialianmaaGreat
open Go.RowKit
open Gs (Tx)

abbrev pairB (a1 a2 a3 b1 b2 b3 : Option Addr) (a4 a5 a6 b4 b5 b6 : Nat) : List Plc := [⟨appM a1 a2 a3 a4 a5 a6, 1⟩, ⟨libM b1 b2 b3 b4 b5 b6, 4⟩]
section
variable (A : Option Addr) (c : Nat) (a1 a2 a3 b1 b2 b3 : Option Addr) (a4 a5 a6 b4 b5 b6 : Nat)
theorem lb_link : linkErr (kern A c) (pairB a1 a2 a3 b1 b2 b3 a4 a5 a6 b4 b5 b6) = 0 := by
  unfold linkErr
  have h0 : krnErr (kern A c) = 0 := by kernel_rfl
  have h1 : regErr (pairB a1 a2 a3 b1 b2 b3 a4 a5 a6 b4 b5 b6) = 0 := by kernel_rfl
  have h2 : isTwice (pairB a1 a2 a3 b1 b2 b3 a4 a5 a6 b4 b5 b6) = false := by
    cases e : isTwice (pairB a1 a2 a3 b1 b2 b3 a4 a5 a6 b4 b5 b6)
    · rfl
    · rw [twice_nodup] at e
      exact absurd (show ([[97, 112, 112], [108, 105, 98]] : List Tx).Nodup by decide) e
  rw [h0, h1, h2]; rfl
end

end Go.Proofs.YtjiedaialianmaaGreat
end

section

namespace Go.Proofs.YtjiedaialianmaaGreat
open Go.RowKit

set_option maxHeartbeats 2000000 in
set_option maxRecDepth 100000 in
theorem SameExports_any (A A' : Option Addr) (c c' : Nat) (l : List Exp) (w : World) (h : Row Exp.cells 2 w A l) (h' : Row Exp.cells 2 w A' l) (hl : l.length ≤ big) :
    Calls Tryz.prog 33 #[.slice A l.length c, .slice A' l.length c'] w fun e w' => e = .returned (.bool true) ∧ Below w.heap.size w w' := by
  have H := Lib.hid h
  have H' := Lib.hid h'
  unfold big at hl
  clear h h'
  go_enter Tryz.func33, Tryz.ntmps33
  go_wp2_with fail
  go_loopw [5] (fun i wr => ∃ (j : Nat), j ≤ l.length ∧ i = .int .i64 j ∧ Below w.heap.size w wr) (fun i _ => l.length - (intOf i).toNat)
  case atStart => exact ⟨0, by omega, rfl, Below.refl _ _⟩
  case round =>
    obtain ⟨j, hj, rfl, hb⟩ := hrel
    have HB := Lib.hid hb
    by_cases hlt : j < l.length
    · have hlt' : (j : Int) < l.length := by omega
      obtain ⟨ad, rfl, hab, k0, k1⟩ := exp_at H.out hb j hlt
      obtain ⟨ad', rfl, hab', k0', k1'⟩ := exp_at H'.out hb j hlt
      obtain ⟨x, hx⟩ : ∃ x, x = l[j] := ⟨_, rfl⟩
      rw [← hx] at k0 k0' k1 k1'
      clear hx hb
      go_wp2_with fail
      go_quiet (fail)
      go_wp2_with fail
      go_roundw
      case rel => exact ⟨j + 1, by omega, by go_num, below_drewN HB.out _⟩
      case measure => (simp [intOf]; try omega)
    · go_wp2_with fail
      go_ret
      exact ⟨rfl, HB.out⟩

set_option maxHeartbeats 4000000 in
set_option maxRecDepth 100000 in
theorem SameMod_any (nm tx : ByteArray) (mj mn : Int) (ex : List Exp) (im : List Imp) (pa : List Pat) (eA iA pA eA' iA' pA' : Option Addr) (eC iC pC eC' iC' pC' : Nat) (w : World)
    (he : ExpsOk w eA ex) (he' : ExpsOk w eA' ex) (hi : ImpsOk w iA im) (hi' : ImpsOk w iA' im) (hp : PatsOk w pA pa) (hp' : PatsOk w pA' pa) :
    Calls Tryz.prog 51 #[.agg #[.string nm, .int .i64 mj, .int .i64 mn, .string tx, .slice eA ex.length eC, .slice iA im.length iC, .slice pA pa.length pC], .agg #[.string nm, .int .i64 mj, .int .i64 mn, .string tx, .slice eA' ex.length eC', .slice iA' im.length iC', .slice pA' pa.length pC']] w fun e w' => e = .returned (.bool true) ∧ Below w.heap.size w w' := by
  obtain ⟨w0, hw0⟩ : ∃ w0, w0 = w.alloc (.cells #[.string nm, .int .i64 mj, .int .i64 mn, .string tx, .slice eA ex.length eC, .slice iA im.length iC, .slice pA pa.length pC] 70) := ⟨_, rfl⟩
  obtain ⟨e0, e1, e2, e3, e4, e5, e6, hz, hb⟩ := box7 hw0
  obtain ⟨w1, hw1⟩ : ∃ w1, w1 = w0.alloc (.cells #[.string nm, .int .i64 mj, .int .i64 mn, .string tx, .slice eA' ex.length eC', .slice iA' im.length iC', .slice pA' pa.length pC'] 70) := ⟨_, rfl⟩
  obtain ⟨f0, f1, f2, f3, f4, f5, f6, hz1, hb1⟩ := box7 hw1
  rw [hz] at f0 f1 f2 f3 f4 f5 f6 hz1
  have x0 := (hb1.cell (p := ⟨w.heap.size, 0, none⟩) (by simp; omega)).trans e0
  have x1 := (hb1.cell (p := ⟨w.heap.size, 1, none⟩) (by simp; omega)).trans e1
  have x2 := (hb1.cell (p := ⟨w.heap.size, 2, none⟩) (by simp; omega)).trans e2
  have x3 := (hb1.cell (p := ⟨w.heap.size, 3, none⟩) (by simp; omega)).trans e3
  have x4 := (hb1.cell (p := ⟨w.heap.size, 4, none⟩) (by simp; omega)).trans e4
  have x5 := (hb1.cell (p := ⟨w.heap.size, 5, none⟩) (by simp; omega)).trans e5
  have x6 := (hb1.cell (p := ⟨w.heap.size, 6, none⟩) (by simp; omega)).trans e6
  have HB1 := Lib.hid (show Below w.heap.size w w1 from hb.trans (hb1.mono (by omega)))
  have hw0' := hw0.symm
  have hw1' := hw1.symm
  have cE := Lib.hid (fun W (hW : Below w.heap.size w W) => SameExports_any eA eA' eC eC' ex W (he.1.below hW) (he'.1.below hW) he.2.1)
  have HI := Lib.hid hi
  have HI' := Lib.hid hi'
  have HP := Lib.hid hp
  have HP' := Lib.hid hp'
  have hil := hi.2.1
  have hpl := hp.2
  unfold big at hil hpl
  have hz2 : w.heap.size + 1 < w1.heap.size := by omega
  have hz3 : w.heap.size < w1.heap.size := by omega
  clear hw0 hw1 hb hb1 he he' hi hi' hp hp' e0 e1 e2 e3 e4 e5 e6 hz1
  go_enter Tryz.func51, Tryz.ntmps51
  go_wp2_with (go_at_call 33; refine (cE.out _ HB1.out).mono ?_; rintro e w2 ⟨rfl, hb2⟩; obtain ⟨hc2, hf2⟩ := bcell hb2; have HB2 := Lib.hid (HB1.out.trans (hb2.mono (by omega))); have hz4 : w.heap.size + 1 < w2.heap.size := (by have := hb2.size; omega))
  have y5 := (hc2 w.heap.size 5 (by omega)).trans x5
  have y6 := (hc2 w.heap.size 6 (by omega)).trans x6
  have g5 := (hc2 (w.heap.size + 1) 5 (by omega)).trans f5
  have g6 := (hc2 (w.heap.size + 1) 6 (by omega)).trans f6
  clear x0 x1 x2 x3 x4 x5 x6 f0 f1 f2 f3 f4 f5 f6 hc2 hf2 hb2 cE
  go_loopw [5] (fun i wr => ∃ (j : Nat), j ≤ im.length ∧ i = .int .i64 j ∧ Below w2.heap.size w2 wr) (fun i _ => im.length - (intOf i).toNat)
  case atStart => exact ⟨0, by omega, rfl, Below.refl _ _⟩
  case round =>
    obtain ⟨j, hj, rfl, hb⟩ := hrel
    have HB := Lib.hid hb
    have r5 := (hb.cell (p := ⟨w.heap.size, 5, none⟩) (by simp; omega)).trans y5
    have s5 := (hb.cell (p := ⟨w.heap.size + 1, 5, none⟩) (by simp; omega)).trans g5
    have r6 := (hb.cell (p := ⟨w.heap.size, 6, none⟩) (by simp; omega)).trans y6
    have s6 := (hb.cell (p := ⟨w.heap.size + 1, 6, none⟩) (by simp; omega)).trans g6
    have HX := Lib.hid (HB2.out.trans (hb.mono (by omega)))
    by_cases hlt : j < im.length
    · have hlt' : (j : Int) < im.length := by omega
      obtain ⟨ad, rfl, hab, k0, k1, k2, k3⟩ := imp_at HI.out.1 HX.out j hlt
      obtain ⟨ad', rfl, hab', k0', k1', k2', k3'⟩ := imp_at HI'.out.1 HX.out j hlt
      obtain ⟨x, hx⟩ : ∃ x, x = im[j] := ⟨_, rfl⟩
      rw [← hx] at k0 k0' k1 k1' k2 k2' k3 k3'
      clear hx hb
      go_wp2_with fail
      go_quiet (fail)
      go_wp2_with fail
      go_roundw
      case rel => exact ⟨j + 1, by omega, by go_num, below_drewN HB.out _⟩
      case measure => (simp [intOf]; try omega)
    · clear hb
      have hwr : w.heap.size + 1 < wr.heap.size := by have := HB.out.size; omega
      go_wp2_with fail
      go_loopw [6] (fun i wr' => ∃ (j : Nat), j ≤ pa.length ∧ i = .int .i64 j ∧ Below w2.heap.size w2 wr') (fun i _ => pa.length - (intOf i).toNat)
      case atStart => exact ⟨0, by omega, rfl, HB.out⟩
      clear r5 s5 r6 s6 HB HX hwr
      case round =>
        obtain ⟨j, hj, rfl, hb⟩ := hrel
        have HB := Lib.hid hb
        have r6 := (hb.cell (p := ⟨w.heap.size, 6, none⟩) (by simp; omega)).trans y6
        have s6 := (hb.cell (p := ⟨w.heap.size + 1, 6, none⟩) (by simp; omega)).trans g6
        have HX := Lib.hid (HB2.out.trans (hb.mono (by omega)))
        by_cases hlt : j < pa.length
        · have hlt' : (j : Int) < pa.length := by omega
          obtain ⟨ad, rfl, hab, k0, k1, k2, k3⟩ := pat_at HP.out.1 HX.out j hlt
          obtain ⟨ad', rfl, hab', k0', k1', k2', k3'⟩ := pat_at HP'.out.1 HX.out j hlt
          obtain ⟨x, hx⟩ : ∃ x, x = pa[j] := ⟨_, rfl⟩
          rw [← hx] at k0 k0' k1 k1' k2 k2' k3 k3'
          clear hx hb
          go_wp2_with fail
          go_quiet (fail)
          go_wp2_with fail
          go_roundw
          case rel => exact ⟨j + 1, by omega, by go_num, below_drewN HB.out _⟩
          case measure => (simp [intOf]; try omega)
        · clear hb
          go_wp2_with fail
          go_ret
          exact ⟨rfl, HX.out⟩

theorem SameModule_any (a b : Mod) (w : World) (hs : SameC a b) (ha : a.ok w) (hb : b.ok w) :
    Calls Tryz.prog 51 #[a.v, b.v] w fun e w' => e = .returned (.bool true) ∧ Below w.heap.size w w' := by
  obtain ⟨nm, mj, mn, tx, ex, im, pa, eA, eC, iA, iC, pA, pC⟩ := a
  obtain ⟨nm', mj', mn', tx', ex', im', pa', eA', eC', iA', iC', pA', pC'⟩ := b
  obtain ⟨h1, h2, h3, h4, h5, h6, h7⟩ := hs
  simp only at h1 h2 h3 h4 h5 h6 h7
  subst h1 h2 h3 h4 h5 h6 h7
  exact SameMod_any nm tx mj mn ex im pa eA iA pA eA' iA' pA' eC iC pC eC' iC' pC' w ha.ex hb.ex ha.im hb.im ha.pa hb.pa

end Go.Proofs.YtjiedaialianmaaGreat
end

section

namespace Go.Proofs.YtjiedaialianmaaGreat
open Go.ChangeShapes Go.WideShapes Go.ChangeAt Go.RowKit

theorem Tryz.own : ownKnob Tryz.prog.godebug = none := by kernel_rfl
theorem Tryz.laidOut : laidOutB Tryz.prog = true := by kernel_rfl

section
variable {H : Type} {enc : TypeId × Value → H} {P : Program}

theorem trodAll_below (hl : laidOutB P = true) {W W' : World} (hb : Below W.heap.size W W') : ∀ {ts : List TypeId} {vs : List Value} {ds : List (DataW H)} {ps : List MemPlace},
    (∀ t ∈ ts, P.readableRec t = true ∧ t < P.types.size) → DataW.TrodAll enc P W 0 (fun _ => true) true ts vs ds ps → (∀ x ∈ ps, x.block < W.heap.size) →
    DataW.TrodAll enc P W' 0 (fun b => decide (b < W.heap.size)) true ts vs ds ps
  | [], vs, ds, ps, _, h, _ => by
    obtain ⟨rfl, rfl, rfl⟩ := trodAll_nil h
    exact trodAll_mk0
  | t :: ts, vs, ds, ps, hr, h, hlt => by
    obtain ⟨v, vs', d, ds', p, q, rfl, rfl, rfl, h0, r0⟩ := trodAll_cons h
    have hrt := hr t (by simp)
    exact trodAll_cons_mk (Below.trod hl hrt.1 hrt.2 h0 hb (fun x hx => hlt x (by simp [hx]))) (trodAll_below hl hb (fun t ht => hr t (by simp [ht])) r0 (fun x hx => hlt x (by simp [hx])))

/-- a law's last step: it has returned true, and what lay before lies as it lay -/
theorem law_post {f : Func} {s : ChangeSpec} {W W' : World} {args : Array Value} {ds gs : List (DataW H)} {before : List MemPlace} {tb : TypeId}
    (hl : laidOutB P = true) (hW : DataW.Whole enc P f.params.toList s.vars false W args.toList ds gs before) (hv : s.vars = []) (hr : ∀ t ∈ f.params.toList, P.readableRec t = true ∧ t < P.types.size)
    (hf : f.resultTypes = #[tb]) (hb : P.underlying tb = some .bool) (h1 : (s.fn H (ds ++ gs)).results = [.lit (.bool true)]) (h2 : (s.fn H (ds ++ gs)).args = ds) (h3 : (s.fn H (ds ++ gs)).vars = [])
    (hbel : Below W.heap.size W W') : s.post enc P f false true false false W args (.bool true) W' := by
  have hlt : ∀ p ∈ before, p.block < W.heap.size := fun p hp => hW.lt p hp
  have hW' := hW
  obtain ⟨p, q, hA, hV, rfl, hfz, hnd⟩ := hW
  rw [hv] at hV
  obtain ⟨rfl, rfl⟩ := trodVars_none hV
  refine ⟨ds, [], _, [], p, [], hW', ?_, ?_, ?_, hbel.frame _, fun h => by cases h⟩
  · rw [h1, hf]; exact trodAll_cons_mk (shut_bool hb true) trodAll_mk0
  · rw [h2]; exact trodAll_below hl hbel hr hA (fun x hx => hlt x (by simp [hx]))
  · rw [h3, hv]; rfl
end
set_option maxRecDepth 100000
end Go.Proofs.YtjiedaialianmaaGreat
end

section

namespace Go.Proofs.YtjiedaialianmaaGreat
open Go.ChangeShapes Go.WideShapes Go.ChangeAt Go.RowKit Go.Deep

/-- a datum is of a bulk that a machine can hold, in all its parts -/
def Fits {H : Type} (P : Program) (t : TypeId) (d : DataW H) : Prop := (d.weights P t).all (· ≤ reachBytes) = true

section
variable {H : Type} {enc : TypeId × Value → H} {P : Program} {w : World} {base : Nat} {spare : Nat → Bool} {held : Bool}

theorem fits_each {ts : List TypeId} {ds : List (DataW H)} (h : (DataW.weightsEach P ts ds).all (· ≤ reachBytes) = true) {j : Nat} {t : TypeId} {d : DataW H} (ht : ts[j]? = some t) (hd : ds[j]? = some d) : Fits P t d := by
  unfold Fits
  rw [List.all_eq_true] at h ⊢
  exact fun n hn => h n (DataW.weights_mem_each ht hd n hn)
theorem fits_agg {t : TypeId} {fs : Array Field} {parts : List (DataW H)} (hu : P.underlying t = some (.struct fs)) (h : Fits P t (.agg parts)) {j : Nat} {f : Field} {d : DataW H} (hf : fs[j]? = some f) (hd : parts[j]? = some d) : Fits P f.type d := by
  unfold Fits at h
  simp only [DataW.weights, hu] at h
  exact fits_each h (j := j) (by rw [List.getElem?_map]; simp [hf]) hd
theorem fits_string {t : TypeId} {l : List UInt8} (h : Fits P t (.lit (.string l) : DataW H)) : l.length ≤ reachBytes := by
  simpa [Fits, DataW.weights] using h
theorem weights_all_mem {e : TypeId} {x : DataW H} {n : Nat} : ∀ {l : List (DataW H)}, x ∈ l → n ∈ x.weights P e → n ∈ DataW.weightsAll P e l
  | d :: r, hx, hn => by
    simp only [DataW.weightsAll, List.mem_append]
    rcases List.mem_cons.1 hx with rfl | hx
    · exact .inl hn
    · exact .inr (weights_all_mem hx hn)
theorem fits_slice {t e : TypeId} {els sp : List (DataW H)} (hu : P.underlying t = some (.slice e)) (h : Fits P t (.slice els sp)) : (els.length + sp.length) * P.bytesOf e ≤ reachBytes ∧ ∀ x ∈ els, Fits P e x := by
  unfold Fits at h
  simp only [DataW.weights, hu, List.all_cons, Bool.and_eq_true, decide_eq_true_eq, List.all_append] at h
  refine ⟨h.1, fun x hx => ?_⟩
  unfold Fits
  rw [List.all_eq_true]
  exact fun n hn => List.all_eq_true.1 h.2.1 n (weights_all_mem hx hn)

theorem cell_lt {w : World} {a : Addr} {v : Value} (h : w.cell? a = some v) : a.block < w.heap.size := by
  rcases Nat.lt_or_ge a.block w.heap.size with hlt | hge
  · exact hlt
  · unfold World.cell? at h; rw [Array.getElem?_eq_none hge] at h; cases h

/-- a row, from what each of its elements is -/
theorem row_of {α : Type} (enc : α → List Value) (k : Nat) (hk : ∀ x, (enc x).length = k) (hk0 : 0 < k) (Q : α → Prop) (a : Addr) (len : Nat)
    (h : ∀ i, i < len → ∃ x, Q x ∧ ∀ j, j < k → w.cell? ((a.add (i * k)).add j) = (enc x)[j]?) : ∃ l : List α, l.length = len ∧ (∀ x ∈ l, Q x) ∧ Row enc k w (some a) l := by
  have hc : ∃ f : Fin len → α, ∀ i, Q (f i) ∧ ∀ j, j < k → w.cell? ((a.add (i.val * k)).add j) = (enc (f i))[j]? :=
    ⟨fun i => Classical.choose (h i.val i.isLt), fun i => Classical.choose_spec (h i.val i.isLt)⟩
  obtain ⟨f, hf⟩ := hc
  refine ⟨List.ofFn f, by simp, fun x hx => ?_, ?_⟩
  · obtain ⟨i, rfl⟩ := List.mem_ofFn.1 hx
    exact (hf i).1
  · refine ⟨by rw [flat_length hk], fun hn => ?_⟩
    have hl : (List.ofFn f).length = len := by simp
    have h0 : 0 < len := by omega
    refine ⟨a, rfl, ?_, fun j u hu => ?_⟩
    · have := (hf ⟨0, h0⟩).2 0 hk0
      rw [List.getElem?_eq_getElem (by rw [hk]; exact hk0)] at this
      have := cell_lt this
      rwa [block_of_add, block_of_add] at this
    · have hj : j < len * k := by
        rcases Nat.lt_or_ge j (len * k) with h | h
        · exact h
        · rw [List.getElem?_eq_none (by rw [flat_length hk, hl]; exact h)] at hu; cases hu
      have hi : j / k < len := Nat.div_lt_of_lt_mul (by rw [Nat.mul_comm]; exact hj)
      have hm : j % k < k := Nat.mod_lt _ hk0
      have e : j = (j / k) * k + j % k := by rw [Nat.mul_comm]; exact (Nat.div_add_mod j k).symm
      have h1 := (hf ⟨j / k, hi⟩).2 (j % k) hm
      have h2 := flat_get hk (List.ofFn f) (j / k) (j % k) (by rw [hl]; exact hi) hm
      rw [← e] at h2
      rw [add_of_add, ← e] at h1
      rw [h1, ← hu, h2]
      simp
end

theorem reach_big : reachBytes = big := by rfl
section
variable {H : Type} {enc : TypeId × Value → H} {w : World} {base : Nat} {spare : Nat → Bool} {held : Bool} {n : Nat} {c : Value} {y : DataW H × List MemPlace}

theorem trod_str (h : DataW.trod enc Tryz.prog w base spare held n 9 [c] = some y) : ∃ s : ByteArray, c = .string s ∧ (Fits Tryz.prog 9 y.1 → s.size ≤ big) := by
  obtain ⟨s, e, rfl, _⟩ := DataW.trod_string Tryz.underlying9 h
  simp only [List.cons.injEq, and_true] at e
  exact ⟨s, e, fun hf => by have := fits_string hf; rw [reach_big] at this; simpa using this⟩
theorem trod_i (h : DataW.trod enc Tryz.prog w base spare held n 3 [c] = some y) : ∃ a : Int, c = iv a := by
  obtain ⟨a, e, rfl, _⟩ := DataW.trod_int Tryz.underlying3 h
  simp only [List.cons.injEq, and_true] at e
  exact ⟨a, e⟩
end
/-- the elements of a slice of structs: each reads as its type says -/
theorem open_els {H : Type} {enc : TypeId × Value → H} {P : Program} {w : World} {base : Nat} {spare : Nat → Bool} {held : Bool} {t e : TypeId} {n : Nat} {c : Value} {y : DataW H × List MemPlace}
    (ht : P.underlying t = some (.slice e)) (hb0 : 0 < P.bytesOf e) (k : Nat) (hC : P.cellsOf e = k) (h : DataW.trod enc P w base spare held n t [c] = some y) :
    ∃ (A : Option Addr) (len cap : Nat), c = .slice A len cap ∧ (Fits P t y.1 → len ≤ big) ∧ (A = none → len = 0) ∧ ∀ a, A = some a → ∀ i, i < len → ∃ (cs' : List Value) (n' : Nat) (z : DataW H × List MemPlace), cs'.length = k ∧
      (∀ j, j < k → w.cell? ((a.add (i * k)).add j) = cs'[j]?) ∧ DataW.trod enc P w base spare held n' e cs' = some z ∧ (Fits P t y.1 → Fits P e z.1) := by
  rcases open_slice ht h with ⟨e1, rfl⟩ | ⟨a, len, cap, m, n', D, Pl, e1, _, hl, _, hm, rfl, hi⟩
  · simp only [List.cons.injEq, and_true] at e1
    exact ⟨none, 0, 0, e1, fun _ => Nat.zero_le _, fun _ => rfl, fun a ha => absurd ha (by simp)⟩
  · simp only [List.cons.injEq, and_true] at e1
    refine ⟨some a, len, cap, e1, fun hf => ?_, fun ha => absurd ha (by simp), fun a' ha i hlt => ?_⟩
    · have h1 := (fits_slice ht hf).1
      rw [reach_big] at h1
      simp only [List.length_map, List.length_range] at h1
      have h2 : (len + (m - len)) * 1 ≤ (len + (m - len)) * P.bytesOf e := Nat.mul_le_mul_left _ hb0
      omega
    · obtain rfl : a = a' := Option.some.inj ha
      obtain ⟨cs', hc, ht'⟩ := hi i (by rw [hm]; split <;> omega)
      rw [hC] at hc
      obtain ⟨_, hcl, hat⟩ := World.cells?_some hc
      exact ⟨cs', n', _, hcl, hat, ht', fun hf => (fits_slice ht hf).2 (D i) (List.mem_map.2 ⟨i, List.mem_range.2 hlt, rfl⟩)⟩

theorem drop_take_one (cs : List Value) (j : Nat) (h : j < cs.length) : (cs.drop j).take 1 = [cs[j]] := by
  rw [List.drop_eq_getElem_cons h]; rfl
/-- the fields of a struct of one-cell fields -/
theorem open_fields {H : Type} {enc : TypeId × Value → H} {P : Program} {w : World} {base : Nat} {spare : Nat → Bool} {held : Bool} {t : TypeId} {fs : Array Field} {n : Nat} {cs : List Value} {y : DataW H × List MemPlace}
    (hu : P.underlying t = some (.struct fs)) (hone : oneCellFields P fs = true) (hlen : cs.length = fs.size) (h : DataW.trod enc P w base spare held n t cs = some y) :
    ∀ (j : Nat) (f : Field) (c : Value), fs[j]? = some f → cs[j]? = some c → ∃ n' z, DataW.trod enc P w base spare held n' f.type [c] = some z ∧ (Fits P t y.1 → Fits P f.type z.1) := by
  intro j f c hf hc
  obtain ⟨xs, n', _, rfl, _, hlx, hg⟩ := DataW.trod_struct hu h
  obtain ⟨ho, hk⟩ := hone_of hone j f hf
  have hj : j < fs.size := (Array.getElem?_eq_some_iff.1 hf).1
  have h1 := hg j f hf
  rw [ho, hk, drop_take_one cs j (by omega)] at h1
  have hx : xs[j]? = some (xs[j]'(by omega)) := List.getElem?_eq_getElem (by omega)
  have hcj : cs[j]'(by omega) = c := by rw [List.getElem?_eq_getElem (by omega)] at hc; exact Option.some.inj hc
  rw [hcj, hx] at h1
  exact ⟨n', _, h1, fun hF => fits_agg hu hF hf (by rw [List.getElem?_map, hx]; rfl)⟩


section
variable {H : Type} {enc : TypeId × Value → H} {w : World} {base : Nat} {spare : Nat → Bool} {held : Bool} {n : Nat} {c : Value} {cs : List Value} {y : DataW H × List MemPlace}

/-- a slice, all of whose elements are so -/
theorem open_row {α : Type} (encE : α → List Value) (k : Nat) (hk : ∀ x, (encE x).length = k) (hk0 : 0 < k) (Q : α → Prop) {t e : TypeId} (ht : Tryz.prog.underlying t = some (.slice e)) (hb0 : 0 < Tryz.prog.bytesOf e) (hC : Tryz.prog.cellsOf e = k)
    (hE : ∀ (cs' : List Value) (n' : Nat) (z : DataW H × List MemPlace), cs'.length = k → DataW.trod enc Tryz.prog w base spare held n' e cs' = some z → Fits Tryz.prog e z.1 → ∃ x : α, cs' = encE x ∧ Q x)
    (h : DataW.trod enc Tryz.prog w base spare held n t [c] = some y) (hF : Fits Tryz.prog t y.1) : ∃ (A : Option Addr) (l : List α) (cap : Nat), c = .slice A l.length cap ∧ l.length ≤ big ∧ (∀ x ∈ l, Q x) ∧ Row encE k w A l := by
  obtain ⟨A, len, cap, rfl, hl, hn, hel⟩ := open_els ht hb0 k hC h
  cases A with
  | none =>
    obtain rfl := hn rfl
    exact ⟨none, [], cap, rfl, Nat.zero_le _, by simp, Row.nil⟩
  | some a =>
    obtain ⟨l, rfl, hq, hr⟩ := row_of (w := w) encE k hk hk0 Q a len fun i hi => by
      obtain ⟨cs', n', z, hcl, hcell, htr, hf⟩ := hel a rfl i hi
      obtain ⟨x, rfl, hx⟩ := hE cs' n' z hcl htr (hf hF)
      exact ⟨x, hx, hcell⟩
    exact ⟨some a, l, cap, rfl, hl hF, hq, hr⟩

theorem Tryz.cellsInt : Tryz.prog.cellsOf 3 = 1 := by kernel_rfl
theorem Tryz.cellsModule : Tryz.prog.cellsOf 70 = 7 := by kernel_rfl
theorem Tryz.cellsKernel : Tryz.prog.cellsOf 24 = 3 := by kernel_rfl
theorem list2 {l : List Value} (h : l.length = 2) : ∃ a b, l = [a, b] := by
  match l, h with | [a, b], _ => exact ⟨a, b, rfl⟩
theorem list4 {l : List Value} (h : l.length = 4) : ∃ a b c d, l = [a, b, c, d] := by
  match l, h with | [a, b, c, d], _ => exact ⟨a, b, c, d, rfl⟩
theorem list7 {l : List Value} (h : l.length = 7) : ∃ a b c d e f g, l = [a, b, c, d, e, f, g] := by
  match l, h with | [a, b, c, d, e, f, g], _ => exact ⟨a, b, c, d, e, f, g, rfl⟩

theorem trod_exp (hl : cs.length = 2) (h : DataW.trod enc Tryz.prog w base spare held n 159 cs = some y) (hF : Fits Tryz.prog 159 y.1) : ∃ x : Exp, cs = x.cells ∧ x.name.size ≤ big := by
  obtain ⟨a, b, rfl⟩ := list2 hl
  have hf := open_fields Tryz.underlying159 (by kernel_rfl) rfl h
  obtain ⟨_, _, h0, f0⟩ := hf 0 _ _ rfl rfl
  obtain ⟨_, _, h1, _⟩ := hf 1 _ _ rfl rfl
  obtain ⟨s, rfl, hs⟩ := trod_str h0
  obtain ⟨z, rfl⟩ := trod_i h1
  exact ⟨⟨s, z⟩, rfl, hs (f0 hF)⟩
theorem trod_imp (hl : cs.length = 4) (h : DataW.trod enc Tryz.prog w base spare held n 173 cs = some y) (hF : Fits Tryz.prog 173 y.1) : ∃ x : Imp, cs = x.cells ∧ x.mod.size ≤ big ∧ x.name.size ≤ big := by
  obtain ⟨a, b, c, d, rfl⟩ := list4 hl
  have hf := open_fields Tryz.underlying173 (by kernel_rfl) rfl h
  obtain ⟨_, _, h0, f0⟩ := hf 0 _ _ rfl rfl
  obtain ⟨_, _, h1, f1⟩ := hf 1 _ _ rfl rfl
  obtain ⟨_, _, h2, _⟩ := hf 2 _ _ rfl rfl
  obtain ⟨_, _, h3, _⟩ := hf 3 _ _ rfl rfl
  obtain ⟨s, rfl, hs⟩ := trod_str h0
  obtain ⟨t, rfl, ht⟩ := trod_str h1
  obtain ⟨z, rfl⟩ := trod_i h2
  obtain ⟨u, rfl⟩ := trod_i h3
  exact ⟨⟨s, t, z, u⟩, rfl, hs (f0 hF), ht (f1 hF)⟩
theorem trod_pat (hl : cs.length = 4) (h : DataW.trod enc Tryz.prog w base spare held n 180 cs = some y) (_ : Fits Tryz.prog 180 y.1) : ∃ x : Pat, cs = x.cells ∧ True := by
  obtain ⟨a, b, c, d, rfl⟩ := list4 hl
  have hf := open_fields Tryz.underlying180 (by kernel_rfl) rfl h
  obtain ⟨_, _, h0, f0⟩ := hf 0 _ _ rfl rfl
  obtain ⟨_, _, h1, f1⟩ := hf 1 _ _ rfl rfl
  obtain ⟨_, _, h2, _⟩ := hf 2 _ _ rfl rfl
  obtain ⟨_, _, h3, _⟩ := hf 3 _ _ rfl rfl
  obtain ⟨s, rfl⟩ := trod_i h0
  obtain ⟨t, rfl⟩ := trod_i h1
  obtain ⟨z, rfl⟩ := trod_i h2
  obtain ⟨u, rfl⟩ := trod_i h3
  exact ⟨⟨s, t, z, u⟩, rfl, trivial⟩
theorem trod_exps (h : DataW.trod enc Tryz.prog w base spare held n 22 [c] = some y) (hF : Fits Tryz.prog 22 y.1) : ∃ (A : Option Addr) (l : List Exp) (cap : Nat), c = .slice A l.length cap ∧ ExpsOk w A l := by
  obtain ⟨A, l, cap, e, h1, h2, h3⟩ := open_row Exp.cells 2 (fun _ => rfl) (by omega) (fun x => x.name.size ≤ big) Tryz.underlying22 (by decide +kernel) (by kernel_rfl) (fun _ _ _ hl ht hf => trod_exp hl ht hf) h hF
  exact ⟨A, l, cap, e, h3, h1, h2⟩
theorem trod_imps (h : DataW.trod enc Tryz.prog w base spare held n 67 [c] = some y) (hF : Fits Tryz.prog 67 y.1) : ∃ (A : Option Addr) (l : List Imp) (cap : Nat), c = .slice A l.length cap ∧ ImpsOk w A l := by
  obtain ⟨A, l, cap, e, h1, h2, h3⟩ := open_row Imp.cells 4 (fun _ => rfl) (by omega) (fun x => x.mod.size ≤ big ∧ x.name.size ≤ big) Tryz.underlying67 (by decide +kernel) (by kernel_rfl) (fun _ _ _ hl ht hf => trod_imp hl ht hf) h hF
  exact ⟨A, l, cap, e, h3, h1, h2⟩
theorem trod_pats (h : DataW.trod enc Tryz.prog w base spare held n 68 [c] = some y) (hF : Fits Tryz.prog 68 y.1) : ∃ (A : Option Addr) (l : List Pat) (cap : Nat), c = .slice A l.length cap ∧ PatsOk w A l := by
  obtain ⟨A, l, cap, e, h1, h2, h3⟩ := open_row Pat.cells 4 (fun _ => rfl) (by omega) (fun _ => True) Tryz.underlying68 (by decide +kernel) (by kernel_rfl) (fun _ _ _ hl ht hf => trod_pat hl ht hf) h hF
  exact ⟨A, l, cap, e, h3, h1⟩
theorem trod_mod (hl : cs.length = 7) (h : DataW.trod enc Tryz.prog w base spare held n 70 cs = some y) (hF : Fits Tryz.prog 70 y.1) : ∃ m : Mod, cs = m.cells ∧ m.ok w := by
  obtain ⟨a, b, c, d, e, f, g, rfl⟩ := list7 hl
  have hf := open_fields Tryz.underlying70 (by kernel_rfl) rfl h
  obtain ⟨_, _, h0, f0⟩ := hf 0 _ _ rfl rfl
  obtain ⟨_, _, h1, f1⟩ := hf 1 _ _ rfl rfl
  obtain ⟨_, _, h2, f2⟩ := hf 2 _ _ rfl rfl
  obtain ⟨_, _, h3, f3⟩ := hf 3 _ _ rfl rfl
  obtain ⟨_, _, h4, f4⟩ := hf 4 _ _ rfl rfl
  obtain ⟨_, _, h5, f5⟩ := hf 5 _ _ rfl rfl
  obtain ⟨_, _, h6, f6⟩ := hf 6 _ _ rfl rfl
  obtain ⟨s, rfl, hs⟩ := trod_str h0
  obtain ⟨z, rfl⟩ := trod_i h1
  obtain ⟨u, rfl⟩ := trod_i h2
  obtain ⟨t, rfl, ht⟩ := trod_str h3
  obtain ⟨eA, ex, eC, rfl, he⟩ := trod_exps h4 (f4 hF)
  obtain ⟨iA, im, iC, rfl, hi⟩ := trod_imps h5 (f5 hF)
  obtain ⟨pA, pa, pC, rfl, hp⟩ := trod_pats h6 (f6 hF)
  exact ⟨⟨s, z, u, t, ex, im, pa, eA, eC, iA, iC, pA, pC⟩, rfl, he, hi, hp, hs (f0 hF), ht (f3 hF)⟩
set_option maxRecDepth 100000 in
theorem trod_plc (hl : cs.length = 8) (h : DataW.trod enc Tryz.prog w base spare held n 83 cs = some y) (hF : Fits Tryz.prog 83 y.1) : ∃ x : Plc, cs = x.cells ∧ x.m.ok w := by
  obtain ⟨xs, n', _, rfl, _, hlx, hg⟩ := DataW.trod_struct Tryz.underlying83 h
  have g0 : DataW.trod enc Tryz.prog w base spare held n' 70 ((cs.drop 0).take (Tryz.prog.cellsOf 70)) = xs[0]? := hg 0 _ rfl
  have g1 : DataW.trod enc Tryz.prog w base spare held n' 3 ((cs.drop 7).take (Tryz.prog.cellsOf 3)) = xs[1]? := hg 1 _ rfl
  rw [Tryz.cellsModule] at g0
  rw [Tryz.cellsInt] at g1
  obtain ⟨y0, y1, rfl⟩ : ∃ y0 y1, xs = [y0, y1] := by
    match xs, hlx with | [a, b], _ => exact ⟨a, b, rfl⟩
  obtain ⟨m, hm, hok⟩ := trod_mod (by simp [hl]) g0 (fits_agg Tryz.underlying83 hF (j := 0) rfl rfl)
  rw [drop_take_one cs 7 (by omega)] at g1
  obtain ⟨z, hz⟩ := trod_i g1
  refine ⟨⟨m, z⟩, ?_, hok⟩
  rw [List.drop_zero] at hm
  have : cs = cs.take 7 ++ cs.drop 7 := (List.take_append_drop 7 cs).symm
  rw [this, hm, List.drop_eq_getElem_cons (by omega), hz, List.drop_eq_nil_of_le (by omega)]
  rfl
theorem trod_plcs (h : DataW.trod enc Tryz.prog w base spare held n 37 [c] = some y) (hF : Fits Tryz.prog 37 y.1) : ∃ (A : Option Addr) (l : List Plc) (cap : Nat), c = .slice A l.length cap ∧ PlsOk w A l := by
  obtain ⟨A, l, cap, e, h1, h2, h3⟩ := open_row Plc.cells 8 (fun _ => rfl) (by omega) (fun x => x.m.ok w) Tryz.underlying37 (by decide +kernel) (by kernel_rfl) (fun _ _ _ hl ht hf => trod_plc hl ht hf) h hF
  exact ⟨A, l, cap, e, h3, h1, h2⟩
end

section
variable {H : Type} {enc : TypeId × Value → H} {w : World} {base : Nat} {spare : Nat → Bool} {held : Bool} {r : Reach} {b0 : Nat} {v : Value} {d : DataW H} {p : List MemPlace}
set_option maxRecDepth 100000 in
theorem open_Module (hv : Value.okWide Tryz.prog w r b0 70 v) (h : DataW.Trod enc Tryz.prog w base spare held 70 v d p) (hF : Fits Tryz.prog 70 d) : ∃ m : Mod, v = m.v ∧ m.ok w := by
  obtain ⟨cs, rfl, hsz⟩ := okWide_struct Tryz.underlying70 hv
  obtain ⟨fuel, hf⟩ := h
  obtain ⟨m, e, hok⟩ := trod_mod (cs := cs.toList) (by rw [Array.length_toList, hsz, Tryz.cellsModule]) hf hF
  obtain ⟨l⟩ := cs
  exact ⟨m, by simp only at e; rw [e]; rfl, hok⟩
theorem Tryz.cellsRegistry : Tryz.prog.cellsOf 39 = 4 := by kernel_rfl
theorem Tryz.cellsPlaceds : Tryz.prog.cellsOf 37 = 1 := by kernel_rfl
set_option maxRecDepth 100000 in
theorem open_Registry (hv : Value.okWide Tryz.prog w r b0 39 v) (h : DataW.Trod enc Tryz.prog w base spare held 39 v d p) (hF : Fits Tryz.prog 39 d) :
    ∃ (k : Krn) (A : Option Addr) (l : List Plc) (cap : Nat), v = .agg #[.int .i64 k.major, .int .i64 k.minor, .slice k.eA k.ex.length k.eC, .slice A l.length cap] ∧ k.ok w ∧ PlsOk w A l := by
  obtain ⟨cs, rfl, hsz⟩ := okWide_struct Tryz.underlying39 hv
  obtain ⟨fuel, hf⟩ := h
  obtain ⟨l⟩ := cs
  obtain ⟨a, b, c, e, rfl⟩ := list4 (l := l) (by have := hsz.trans Tryz.cellsRegistry; simpa using this)
  obtain ⟨xs, n', _, hd, _, hlx, hg⟩ := DataW.trod_struct Tryz.underlying39 hf
  have g0 : DataW.trod enc Tryz.prog w base spare held n' 24 (([a, b, c, e].drop 0).take (Tryz.prog.cellsOf 24)) = xs[0]? := hg 0 _ rfl
  have g1 : DataW.trod enc Tryz.prog w base spare held n' 37 (([a, b, c, e].drop 3).take (Tryz.prog.cellsOf 37)) = xs[1]? := hg 1 _ rfl
  rw [Tryz.cellsKernel] at g0
  rw [Tryz.cellsPlaceds] at g1
  obtain ⟨y0, y1, rfl⟩ : ∃ y0 y1, xs = [y0, y1] := by
    match xs, hlx with | [a, b], _ => exact ⟨a, b, rfl⟩
  have hd' : d = .agg [y0.1, y1.1] := congrArg Prod.fst hd
  rw [hd'] at hF
  have fK := fits_agg Tryz.underlying39 hF (j := 0) rfl rfl
  have fL := fits_agg Tryz.underlying39 hF (j := 1) rfl rfl
  have hf' := open_fields Tryz.underlying24 (by kernel_rfl) rfl g0
  obtain ⟨_, _, h0, f0⟩ := hf' 0 _ _ rfl rfl
  obtain ⟨_, _, h1, f1⟩ := hf' 1 _ _ rfl rfl
  obtain ⟨_, _, h2, f2⟩ := hf' 2 _ _ rfl rfl
  obtain ⟨z, rfl⟩ := trod_i h0
  obtain ⟨u, rfl⟩ := trod_i h1
  obtain ⟨eA, ex, eC, rfl, he⟩ := trod_exps h2 (f2 fK)
  obtain ⟨A, l, cap, e4, hl⟩ := trod_plcs g1 fL
  subst e4
  exact ⟨⟨z, u, ex, eA, eC⟩, A, l, cap, rfl, ⟨he⟩, hl⟩
end

end Go.Proofs.YtjiedaialianmaaGreat
end
