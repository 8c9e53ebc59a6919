import Derived.Test.YtgkpbndeljnjcaaGreatLAreaW
import Derived.Test.YtgkpbndeljnjcaaGreatTwiceW
import Derived.Test.YtgkpbndeljnjcaaGreatAll2W
/- Bytes as they lie: the document's CheckLink, ImageOf, AreaOf. -/
namespace Go.Proofs.YtgkpbndeljnjcaaGreat
open Go.RowKit
open Gs (Tx)

set_option maxHeartbeats 2000000 in
set_option maxRecDepth 100000 in
theorem CheckLink_any (k : Krn) (A : Option Addr) (c : Nat) (l : List Plc) (w : World) (hk : k.ok w) (h : PlsOk w A l) :
    Calls Tryz.prog 6 #[k.v, .slice A l.length c] w fun e w' => e = .returned (.int .i64 (linkErr k l)) ∧ Below w.heap.size w w' := by
  obtain ⟨w0, hw0⟩ : ∃ w0, w0 = w.alloc (.cells #[.int .i64 k.major, .int .i64 k.minor, .slice k.eA k.ex.length k.eC] 24) := ⟨_, rfl⟩
  obtain ⟨g0, g1, g2, hz, hb0⟩ := box3 hw0
  have H0 := Lib.hid hb0
  have hw0' := hw0.symm
  have c1 := Lib.hid (CheckKernel_any k w0 (hk.below hb0))
  have c2 := Lib.hid (fun W (hb : Below w.heap.size w W) => CheckRegions_any A c l W (h.below hb))
  have c3 := Lib.hid (fun W (hb : Below w.heap.size w W) => IsTwice_any A c l W (h.row.below hb) h.len)
  obtain ⟨E, hE⟩ : ∃ E, E = linkErr k l := ⟨_, rfl⟩
  rw [← hE]
  unfold linkErr at hE
  clear hw0 hb0 hk h
  generalize krnErr k = ke at *
  generalize regErr l = re at *
  generalize isTwice l = tw at *
  by_cases t1 : ke = 0
  · obtain rfl := t1
    rw [if_neg (by omega)] at hE
    by_cases t2 : re = 0
    · obtain rfl := t2
      rw [if_neg (by omega)] at hE
      cases tw
      · rw [if_neg (by simp)] at hE
        go_enter Tryz.func6, Tryz.ntmps6
        go_wp2_with (first | (go_at_call 18; (with_reducible refine (c1.out).mono ?_); rintro e w1 ⟨rfl, hb1⟩) | (go_at_call 19; (with_reducible refine (c2.out _ (H0.out.trans (hb1.mono (by omega)))).mono ?_); rintro e w2 ⟨rfl, hb2⟩) | (go_at_call 20; (with_reducible refine (c3.out _ ((H0.out.trans (hb1.mono (by omega))).trans (hb2.mono (by have := hb1.size; omega)))).mono ?_); rintro e w3 ⟨rfl, hb3⟩))
        go_ret
        exact ⟨ret_int hE.symm, ((H0.out.trans (hb1.mono (by omega))).trans (hb2.mono (by have := hb1.size; omega))).trans (hb3.mono (by have := hb1.size; have := hb2.size; omega))⟩
      · rw [if_pos rfl] at hE
        go_enter Tryz.func6, Tryz.ntmps6
        go_wp2_with (first | (go_at_call 18; (with_reducible refine (c1.out).mono ?_); rintro e w1 ⟨rfl, hb1⟩) | (go_at_call 19; (with_reducible refine (c2.out _ (H0.out.trans (hb1.mono (by omega)))).mono ?_); rintro e w2 ⟨rfl, hb2⟩) | (go_at_call 20; (with_reducible refine (c3.out _ ((H0.out.trans (hb1.mono (by omega))).trans (hb2.mono (by have := hb1.size; omega)))).mono ?_); rintro e w3 ⟨rfl, hb3⟩))
        go_ret
        exact ⟨ret_int hE.symm, ((H0.out.trans (hb1.mono (by omega))).trans (hb2.mono (by have := hb1.size; omega))).trans (hb3.mono (by have := hb1.size; have := hb2.size; omega))⟩
    · rw [if_pos t2] at hE
      have t2' : (re == 0) = false := by simp [t2]
      clear t2 c3
      go_enter Tryz.func6, Tryz.ntmps6
      go_wp2_with (first | (go_at_call 18; (with_reducible refine (c1.out).mono ?_); rintro e w1 ⟨rfl, hb1⟩) | (go_at_call 19; (with_reducible refine (c2.out _ (H0.out.trans (hb1.mono (by omega)))).mono ?_); rintro e w2 ⟨rfl, hb2⟩))
      go_ret
      exact ⟨ret_int hE.symm, (H0.out.trans (hb1.mono (by omega))).trans (hb2.mono (by have := hb1.size; omega))⟩
  · rw [if_pos t1] at hE
    have t1' : (ke == 0) = false := by simp [t1]
    clear t1 c2 c3
    go_enter Tryz.func6, Tryz.ntmps6
    go_wp2_with (first | (go_at_call 18; (with_reducible refine (c1.out).mono ?_); rintro e w1 ⟨rfl, hb1⟩))
    go_ret
    exact ⟨ret_int hE.symm, H0.out.trans (hb1.mono (by omega))⟩

/-- a text's bytes, as a number -/
def strZ : Value → Nat | .string s => s.size | _ => 0
theorem pad_step {n : Nat} {s : Tx} (h : s.length < n) : pad n (s ++ [255]) = pad n s := by
  unfold pad
  rw [List.append_assoc]
  congr 1
  have e : n - s.length = (n - (s ++ [255]).length) + 1 := by simp; omega
  rw [e, List.replicate_succ]; rfl
theorem pad_full {n : Nat} {s : Tx} (h : s.length = n) : pad n s = s := by
  unfold pad; rw [h, Nat.sub_self]; simp
theorem push255 (t : Tx) : bs t ++ ⟨#[255]⟩ = bs (t ++ [255]) := ba_eq (by rw [ba_append])

set_option maxHeartbeats 8000000 in
set_option maxRecDepth 100000 in
theorem ImageOf_any (k : Krn) (A : Option Addr) (c : Nat) (l : List Plc) (j : Nat) (w : World) (hj : j < l.length) (hk : k.ok w) (h : PlsOk w A l) (hp : placedErr k l = 0) (hm : modErr l[j].m = 0) (h0 : 0 ≤ l[j].first) (h1 : l[j].first ≤ 16) :
    Calls Tryz.prog 8 #[k.v, .slice A l.length c, .int .i64 j] w fun e w' => e = .returned (.tuple #[.string (bs (imgOf k l l[j]).1), .int .i64 (imgOf k l l[j]).2]) ∧ Below w.heap.size w w' := by
  have hlen := h.len
  unfold big at hlen
  have hj' : (j : Int) < l.length := by omega
  have KJ := Lib.hid (fun W (hbW : Below w.heap.size w W) => plc_at h.row hbW j hj)
  have hx := h.each l[j] (List.getElem_mem _)
  obtain ⟨wk, hwk⟩ : ∃ wk, wk = w.alloc (.cells #[.int .i64 k.major, .int .i64 k.minor, .slice k.eA k.ex.length k.eC] 24) := ⟨_, rfl⟩
  obtain ⟨g0, g1, g2, hzk, hbk⟩ := box3 hwk
  obtain ⟨ad, rfl, hab, p0, p1, p2, p3, p4, p5, p6, p7⟩ := KJ.out wk hbk
  obtain ⟨y, hy⟩ : ∃ y, y = l[j]'hj := ⟨_, rfl⟩
  rw [← hy] at hm h0 h1 hx p0 p1 p2 p3 p4 p5 p6 p7 ⊢
  simp only [← hy] at KJ
  obtain ⟨w0, hw0⟩ : ∃ w0, w0 = wk.alloc (.cells #[.string y.m.name, .int .i64 y.m.major, .int .i64 y.m.minor, .string y.m.text, .slice y.m.eA y.m.ex.length y.m.eC, .slice y.m.iA y.m.im.length y.m.iC, .slice y.m.pA y.m.pa.length y.m.pC] 39) := ⟨_, rfl⟩
  obtain ⟨f0, f1, f2, f3, f4, f5, f6, hz0, hb0⟩ := box7 hw0
  rw [hzk] at f0 f1 f2 f3 f4 f5 f6 hz0 hb0
  have k0 := (hb0.cell (p := ⟨w.heap.size, 0, none⟩) (by simp)).trans g0
  have k1 := (hb0.cell (p := ⟨w.heap.size, 1, none⟩) (by simp)).trans g1
  have k2 := (hb0.cell (p := ⟨w.heap.size, 2, none⟩) (by simp)).trans g2
  have hbw := hbk.trans (hb0.mono (by omega))
  have H0 := Lib.hid hbw
  have hwk' := hwk.symm
  have hw0' := hw0.symm
  have hfm := modErr_facts hm
  have HPS := Lib.hid (show ∀ p ∈ y.m.pa, p.sym < y.m.im.length from mod_pats hm)
  obtain ⟨mt1, mt2, mt3⟩ := many_text y.m
  have hMany := many_ok hm
  have ht : y.m.text.size ≤ 256 := hfm.2.2.1
  have hi6 : y.m.im.length ≤ 6 := hfm.2.2.2.2.2.2.1
  have hpl : y.m.pa.length ≤ 12 := hfm.2.2.2.2.2.2.2.1
  have cA := Lib.hid (AddressesOf_any k (some ad) c l y.m.name y.m.text y.m.major y.m.minor y.m.ex y.m.im y.m.pa y.m.eA y.m.iA y.m.pA y.m.eC y.m.iC y.m.pC w0 (hk.below hbw) (h.below hbw) (hx.below hbw).im hi6 hp)
  have HAL := Lib.hid (addrs_length (k := k) (l := l) (r := y.m.im))
  have HPA := Lib.hid (show Row Pat.cells 4 w0 y.m.pA y.m.pa from (hx.below hbw).pa.1)
  have hI : imgOf k l y = if (addrsOf k l y.m.im).2 ≠ 0 then ([], (addrsOf k l y.m.im).2) else if (patchAll (addrsOf k l y.m.im).1 (baseOf y) y.m.pa y.m.text).2 ≠ 0 then ([], (patchAll (addrsOf k l y.m.im).1 (baseOf y) y.m.pa y.m.text).2) else (pad (64 * (manyOf y.m).toNat) (tx (patchAll (addrsOf k l y.m.im).1 (baseOf y) y.m.pa y.m.text).1), 0) := rfl
  obtain ⟨I, hII⟩ : ∃ I, I = imgOf k l y := ⟨_, rfl⟩
  rw [← hII] at hI ⊢
  generalize addrsOf k l y.m.im = ads at *
  obtain ⟨ns, er⟩ := ads
  simp only at cA HAL hI
  have hb0f : baseOf y = 4096 + 64 * y.first := rfl
  have q1 : IntKind.i64.wrap (64 * y.first) = 64 * y.first := IntWalk.i64_in _ (by omega)
  have q2 : IntKind.i64.wrap (4096 + 64 * y.first) = baseOf y := IntWalk.i64_in _ (by omega)
  clear hII hwk hw0 hbk hb0 hbw g0 g1 g2 hk h hx hp hm hfm hy
  have hz1 : w.heap.size + 1 < w0.heap.size := by omega
  have hz2 : w.heap.size < w0.heap.size := by omega
  clear hz0
  by_cases te : er = 0
  · subst te
    rw [if_neg (by simp)] at hI
    have hnl := HAL.out rfl
    obtain ⟨R, hRR⟩ : ∃ R, R = patchAll ns (baseOf y) y.m.pa y.m.text := ⟨_, rfl⟩
    rw [← hRR] at hI
    have HRR := Lib.hid hRR.symm
    have HI := Lib.hid hI
    have HNL := Lib.hid hnl
    have HBA := Lib.hid (show baseOf y = baseOf y from rfl)
    generalize baseOf y = BA at *
    subst hb0f
    clear hI hRR hnl HAL
    go_enter Tryz.func8, Tryz.ntmps8
    go_wp2_with (go_at_call 21; (with_reducible refine (cA.out).mono ?_); rintro e w2 ⟨⟨sA, sC, rfl, hr2⟩, hb2⟩; have HR2 := Lib.hid hr2; have HB2 := Lib.hid hb2; obtain ⟨hc2, hf2⟩ := bcell hb2; have hz3 : w.heap.size + 1 < w2.heap.size := (by have := hb2.size; omega); have hz4 : w.heap.size < w2.heap.size := (by omega); have hab2 : (ad.add (j * 8)).block < w2.heap.size := (by rw [block_of_add]; omega); obtain ⟨_, ea, _, m0, m1, m2, m3, m4, m5, m6, m7⟩ := KJ.out _ (H0.out.trans (hb2.mono H0.out.size)); obtain rfl := Option.some.inj ea; clear hr2 hb2)
    have HPA2 := Lib.hid (HPA.out.below HB2.out)
    have x6 := (HB2.out.cell (p := ⟨w.heap.size + 1, 6, none⟩) hz1).trans f6
    have HX6 := Lib.hid x6
    have HBW := Lib.hid (H0.out.trans (HB2.out.mono H0.out.size))
    clear hc2 hf2 m0 m1 m2 m3 m4 m5 m6 m7 x6
    go_loopw [10, 12, 13] (fun cd v i wr => ∃ (n : Nat) (s : ByteArray), n ≤ y.m.pa.length ∧ cd = .int .i64 0 ∧ v = .string s ∧ i = .int .i64 n ∧ s.size = y.m.text.size ∧ patchAll ns (4096 + 64 * y.first) (y.m.pa.drop n) s = R ∧ Below w2.heap.size w2 wr) (fun _ _ i _ => y.m.pa.length - (intOf i).toNat)
    case atStart => exact ⟨0, y.m.text, by omega, rfl, rfl, rfl, rfl, HRR.out, Below.refl _ _⟩
    case round =>
      obtain ⟨n, s, hn, rfl, rfl, rfl, hsz, hR, hb⟩ := hrel
      have HSZ := Lib.hid hsz
      have HR := Lib.hid hR
      have HB := Lib.hid hb
      have hsz9 : s.size ≤ 256 := by omega
      have m6 := (hb.cell (p := ⟨w.heap.size + 1, 6, none⟩) hz3).trans HX6.out
      have hz5 : w.heap.size + 1 < wr.heap.size := by have := hb.size; omega
      clear hsz hR
      by_cases hlt : n < y.m.pa.length
      · have hlt' : (n : Int) < y.m.pa.length := by omega
        obtain ⟨pd, hpd, hpb, a0, a1, a2, a3⟩ := pat_at HPA2.out hb n hlt
        rw [hpd] at m6
        have hsy := HPS.out y.m.pa[n] (List.getElem_mem _)
        have E1 := Lib.hid (fun e => (patchAll_err (at_ := ns) (base := (4096 + 64 * y.first)) (s := s) hlt e).symm.trans HR.out)
        have E2 := Lib.hid (fun e => (patchAll_next (at_ := ns) (base := (4096 + 64 * y.first)) (s := s) hlt e).trans HR.out)
        have E3 := Lib.hid (show applyErr s.size y.m.pa[n].kind y.m.pa[n].at_ y.m.pa[n].add (symOf ns (4096 + 64 * y.first) y.m.pa[n]) (4096 + 64 * y.first) = 0 → (applyStr s y.m.pa[n].kind y.m.pa[n].at_ y.m.pa[n].add (symOf ns (4096 + 64 * y.first) y.m.pa[n]) (4096 + 64 * y.first)).size = s.size from fun e => applyStr_size e)
        obtain ⟨q, hq⟩ : ∃ q, q = y.m.pa[n]'hlt := ⟨_, rfl⟩
        rw [← hq] at a0 a1 a2 a3 hsy
        simp only [← hq] at E1 E2 E3
        obtain ⟨S, hS⟩ : ∃ S, S = symOf ns (4096 + 64 * y.first) q := ⟨_, rfl⟩
        simp only [← hS] at E1 E2 E3
        unfold symOf at hS
        have cP := Lib.hid (fun W => ApplyOf_any s q.kind q.at_ q.sym q.add S (4096 + 64 * y.first) W (by omega))
        obtain ⟨E, hE⟩ : ∃ E, E = applyErr s.size q.kind q.at_ q.add S (4096 + 64 * y.first) := ⟨_, rfl⟩
        obtain ⟨T, hT⟩ : ∃ T, T = applyStr s q.kind q.at_ q.add S (4096 + 64 * y.first) := ⟨_, rfl⟩
        simp only [← hE, ← hT] at cP E1 E2 E3
        clear hq hE hT hpd
        by_cases t : q.sym < 0
        · rw [if_pos t] at hS
          subst hS
          have t' : decide (0 ≤ q.sym) = false := by simp; omega
          clear t hsy hb
          by_cases tE : E = 0
          · subst tE
            have e2 := Lib.hid (E2.out rfl)
            have e3 := Lib.hid ((E3.out rfl).trans HSZ.out)
            clear E1 E2 E3
            go_wp2_with (go_at_call 22; (with_reducible refine (cP.out _).mono ?_); rintro e w5 ⟨rfl, hb5⟩)
            go_roundw
            case rel => exact ⟨n + 1, T, by omega, by rfl, by rfl, by go_num, e3.out, e2.out, HB.out.trans (hb5.mono HB.out.size)⟩
            case measure => (simp [intOf]; try omega)
          · have e1 := Lib.hid (E1.out tE)
            have tE' : (E != 0) = true := by simp [tE]
            have HTE := Lib.hid tE
            clear tE E1 E2 E3
            go_wp2_with (go_at_call 22; (with_reducible refine (cP.out _).mono ?_); rintro e w5 ⟨rfl, hb5⟩)
            go_ret2
            refine ⟨?_, HBW.out.trans ((HB.out.trans (hb5.mono HB.out.size)).mono HBW.out.size)⟩
            rw [HI.out, ← e1.out, if_pos HTE.out]; rfl
        · rw [if_neg t] at hS
          obtain ⟨m, hm⟩ : ∃ m : Nat, q.sym = m := ⟨q.sym.toNat, by omega⟩
          have hml : m < ns.length := by have := HNL.out; omega
          have hml' : (m : Int) < ns.length := by omega
          rw [hm] at hS a2 cP
          rw [Int.toNat_natCast, List.getD_eq_getElem?_getD, List.getElem?_eq_getElem hml, Option.getD_some] at hS
          obtain ⟨sa, hsa, hsb, i0⟩ := intl_at HR2.out hb m hml
          rw [← hS] at i0
          subst hsa
          clear t hsy hb hS hm
          by_cases tE : E = 0
          · subst tE
            have e2 := Lib.hid (E2.out rfl)
            have e3 := Lib.hid ((E3.out rfl).trans HSZ.out)
            clear E1 E2 E3
            go_wp2_with (go_at_call 22; (with_reducible refine (cP.out _).mono ?_); rintro e w5 ⟨rfl, hb5⟩)
            go_roundw
            case rel => exact ⟨n + 1, T, by omega, by rfl, by rfl, by go_num, e3.out, e2.out, HB.out.trans (hb5.mono HB.out.size)⟩
            case measure => (simp [intOf]; try omega)
          · have e1 := Lib.hid (E1.out tE)
            have tE' : (E != 0) = true := by simp [tE]
            have HTE := Lib.hid tE
            clear tE E1 E2 E3
            go_wp2_with (go_at_call 22; (with_reducible refine (cP.out _).mono ?_); rintro e w5 ⟨rfl, hb5⟩)
            go_ret2
            refine ⟨?_, HBW.out.trans ((HB.out.trans (hb5.mono HB.out.size)).mono HBW.out.size)⟩
            rw [HI.out, ← e1.out, if_pos HTE.out]; rfl
      · have e1 := Lib.hid ((patchAll_end (at_ := ns) (base := 4096 + 64 * y.first) (s := s) hlt).symm.trans HR.out)
        obtain rfl : n = y.m.pa.length := by omega
        obtain ⟨M, hMM⟩ : ∃ M : Nat, manyOf y.m = M := ⟨(manyOf y.m).toNat, by omega⟩
        obtain ⟨G, hG⟩ : ∃ G, G = pad (64 * M) (tx s) := ⟨_, rfl⟩
        have HG := Lib.hid hG.symm
        have HII := Lib.hid (show I = (G, 0) by rw [HI.out, ← e1.out, if_neg (by simp), hMM, hG]; rfl)
        rw [hMM] at mt1 mt2 hMany
        have hss : (tx s).length = s.size := rfl
        have HSS := Lib.hid (show (bs (tx s)) = s from rfl)
        have hsz := HSZ.out
        clear hlt hG hMM mt3
        go_wp2_with fail
        go_loopw [12] (fun v wz => ∃ u : Tx, v = .string (bs u) ∧ u.length ≤ 64 * M ∧ 64 * M < u.length + 64 ∧ pad (64 * M) u = G ∧ Below wr.heap.size wr wz) (fun v _ => 64 * M - strZ v)
        case atStart => exact ⟨tx s, rfl, by omega, by omega, HG.out, Below.refl _ _⟩
        case round =>
          obtain ⟨u, rfl, hu1, hu2, hpu, hbz⟩ := hrel
          have HPU := Lib.hid hpu
          have HBZ := Lib.hid hbz
          have hus : (bs u).size = u.length := rfl
          clear hpu hbz
          by_cases hl2 : u.length < 64 * M
          · have hr1 : 0 < (u.length : Int) % 64 := by omega
            have g9 : ∀ W, (Op.stringOp .add (bs u) ⟨#[255]⟩).run Tryz.prog W = .ok (.string (bs u ++ ⟨#[255]⟩)) W := fun W => run_string_add_sum _ _ _ (by rw [hus]; show _ + 1 ≤ _; omega)
            rw [push255] at g9
            go_wp2_with fail
            go_roundw
            case rel => exact ⟨u ++ [255], rfl, by simp; omega, by simp; omega, (pad_step hl2).trans HPU.out, HBZ.out⟩
            case measure => (simp only [strZ]; show _ - (u ++ [255]).length < _ - u.length; simp; omega)
          · have hr1 : (u.length : Int) % 64 = 0 := by omega
            have HU := Lib.hid ((pad_full (show u.length = 64 * M by omega)).symm.trans HPU.out)
            go_wp2_with fail
            go_ret2
            refine ⟨?_, HBW.out.trans ((HB.out.trans (HBZ.out.mono HB.out.size)).mono HBW.out.size)⟩
            rw [HII.out, HU.out]
            rfl
  · rw [if_pos te] at hI
    have te' : (er != 0) = true := by simp [te]
    have HI := Lib.hid hI
    clear hI te HAL
    go_enter Tryz.func8, Tryz.ntmps8
    go_wp2_with (go_at_call 21; (with_reducible refine (cA.out).mono ?_); rintro e w2 ⟨⟨sA, sC, rfl, hr2⟩, hb2⟩; have HB2 := Lib.hid hb2; clear hr2 hb2)
    go_ret2
    exact ⟨by rw [HI.out]; rfl, H0.out.trans (HB2.out.mono H0.out.size)⟩

theorem fill_row (n : Nat) (u : Tx) : u ++ List.replicate n 255 = pad (u.length + n) u := by
  unfold pad; rw [Nat.add_sub_cancel_left]

set_option maxHeartbeats 8000000 in
set_option maxRecDepth 100000 in
theorem AreaOf_any (k : Krn) (A : Option Addr) (c : Nat) (l : List Plc) (w : World) (hk : k.ok w) (h : PlsOk w A l) (hL : linkErr k l = 0) :
    Calls Tryz.prog 9 #[k.v, .slice A l.length c] w fun e w' => e = .returned (.tuple #[.string (bs (areaT k l)), .int .i64 (areaErr k l)]) ∧ Below w.heap.size w w' := by
  have hlen := h.len
  unfold big at hlen
  have hE : areaErr k l = (areaGo k l l 0).2 := by unfold areaErr; rw [if_neg (by omega)]
  have hT : areaT k l = (areaGo k l l 0).1 := by unfold areaT; rw [if_neg (by omega)]
  rw [hE, hT]
  obtain ⟨w0, hw0⟩ : ∃ w0, w0 = w.alloc (.cells #[.int .i64 k.major, .int .i64 k.minor, .slice k.eA k.ex.length k.eC] 24) := ⟨_, rfl⟩
  obtain ⟨g0, g1, g2, hz, hb0⟩ := box3 hw0
  have hz0 : w.heap.size < w0.heap.size := by omega
  have H0 := Lib.hid hb0
  have hw0' := hw0.symm
  have HP := Lib.hid h
  have HK := Lib.hid hk
  have HPL := Lib.hid (linkErr_ok hL).2.2.2
  have HRW := Lib.hid (reg_row (linkErr_ok hL).2.1).2.2
  have HEA := Lib.hid (plc_link hL)
  obtain ⟨R, hRR⟩ : ∃ R, R = areaGo k l l 0 := ⟨_, rfl⟩
  rw [← hRR]
  have HRR := Lib.hid hRR.symm
  have HK0 := Lib.hid g0
  have HK1 := Lib.hid g1
  have HK2 := Lib.hid g2
  clear hw0 hb0 hz hL h hk hE hT hRR g0 g1 g2
  go_enter Tryz.func9, Tryz.ntmps9
  go_wp2_with fail
  go_loopw [6, 7] (fun v i wr => ∃ (j : Nat) (a : Int) (pre : Tx), j ≤ l.length ∧ i = .int .i64 j ∧ v = .string (bs pre) ∧ 0 ≤ a ∧ a ≤ 16 ∧ Row16 a (l.drop j) ∧ (pre.length : Int) = 64 * a ∧ aglue pre (areaGo k l (l.drop j) a) = R ∧ Below w0.heap.size w0 wr) (fun _ i _ => l.length - (intOf i).toNat)
  case atStart => exact ⟨0, 0, [], by omega, rfl, rfl, by omega, by omega, HRW.out, rfl, by rw [aglue_nil]; exact HRR.out, Below.refl _ _⟩
  case round =>
    obtain ⟨j, a, pre, hj, rfl, rfl, ha0, ha1, hrw, hpl, hR, hb⟩ := hrel
    have HB := Lib.hid hb
    have HR := Lib.hid hR
    have HPL2 := Lib.hid hpl
    have HRW2 := Lib.hid hrw
    have hpre : pre.length ≤ 1024 := by omega
    have hps : (bs pre).size = pre.length := rfl
    clear hR hrw
    by_cases hlt : j < l.length
    · have hlt' : (j : Int) < l.length := by omega
      obtain ⟨r1, r2, r3, r4⟩ := row16_at HRW2.out hlt
      obtain ⟨q1, q2, q3⟩ := HEA.out l[j] (List.getElem_mem _)
      have hb9 := H0.out.trans (hb.mono H0.out.size)
      obtain ⟨ad, rfl, hab, f0, f1, f2, f3, f4, f5, f6, f7⟩ := plc_at HP.out.row hb9 j hlt
      have KJ := Lib.hid (fun W (hbW : Below w.heap.size w W) => plc_at HP.out.row hbW j hlt)
      have m0 := (hb.cell (p := ⟨w.heap.size, 0, none⟩) hz0).trans HK0.out
      have m1 := (hb.cell (p := ⟨w.heap.size, 1, none⟩) hz0).trans HK1.out
      have m2 := (hb.cell (p := ⟨w.heap.size, 2, none⟩) hz0).trans HK2.out
      have hwz := hb.size
      have hz2 : w.heap.size < wr.heap.size := by omega
      have E1 := Lib.hid (fun e => (area_err (k := k) (pre := pre) (a := a) hlt e).symm.trans HR.out)
      have E2 := Lib.hid (fun e => (area_next (k := k) (pre := pre) (a := a) hlt e).trans HR.out)
      have E3 := Lib.hid (fun (e : (imgOf k l (l[j]'hlt)).2 = 0) => imgOf_length (k := k) (l := l) (x := l[j]'hlt) e)
      have cI := Lib.hid (fun W (hW : Below w.heap.size w W) => ImageOf_any k (some ad) c l j W hlt (HK.out.below hW) (HP.out.below hW) HPL.out q1 q2 q3)
      have hEn : endOf l[j] = l[j].first + manyOf l[j].m := rfl
      have hle := Row16.le r4
      obtain ⟨y, hy⟩ : ∃ y, y = l[j]'hlt := ⟨_, rfl⟩
      simp only [← hy] at f0 f1 f2 f3 f4 f5 f6 f7 E1 E2 E3 cI hEn hle r1 r2 r3 r4 q2 q3 KJ
      have R4 := Lib.hid r4
      have HB9 := Lib.hid hb9
      clear hb hb9 hy q1 r4
      obtain ⟨⟨G, ge⟩, hG⟩ : ∃ G, G = imgOf k l y := ⟨_, rfl⟩
      simp only [← hG] at cI E1 E2 E3
      clear hG
      by_cases tE : ge = 0
      · subst tE
        have e2 := E2.out rfl
        have e3 := E3.out rfl
        have HGL := Lib.hid e3
        have hgl9 : G.length ≤ 256 := by omega
        have hgs : (bs G).size = G.length := rfl
        obtain ⟨N, hN⟩ : ∃ N : Nat, N = (64 * y.first).toNat := ⟨_, rfl⟩
        have hN2 : (N : Int) = 64 * y.first := by omega
        obtain ⟨G0, hG0⟩ : ∃ G0, G0 = pre ++ List.replicate (64 * (y.first - a)).toNat 255 := ⟨_, rfl⟩
        have HG0 := Lib.hid (show pad N pre = G0 by rw [hG0]; unfold pad; congr 2; omega)
        have HG1 := Lib.hid (show G0.length = N by rw [hG0, List.length_append, List.length_replicate]; omega)
        rw [← List.append_assoc, ← hG0] at e2
        have hl0 : pre.length ≤ N := by omega
        have E2 := Lib.hid e2
        have q4 : IntKind.i64.wrap (64 * y.first) = N := by rw [hN2]; exact IntWalk.i64_in _ (by omega)
        have HN := Lib.hid hN2
        have hN9 : N ≤ 1024 := by omega
        have HPS := Lib.hid hps
        clear e2 e3 E1 E3 f0 f1 f2 f3 f4 f5 f6 f7 hG0 hN hN2 hpl hps
        go_wp2_with (go_at_call 8; (with_reducible refine (cI.out _ HB9.out).mono ?_); rintro e w5 ⟨rfl, hb5⟩; have HB5 := Lib.hid hb5; clear hb5)
        have HB8 := Lib.hid (HB9.out.trans (HB5.out.mono HB9.out.size))
        have hw5 : w0.heap.size ≤ w5.heap.size := by have := HB5.out.size; omega
        have HEN := Lib.hid hEn
        have HGS := Lib.hid hgs
        clear hEn hgs
        go_loopw [6] (fun v wz => ∃ u : Tx, v = .string (bs u) ∧ u.length ≤ N ∧ pad N u = G0 ∧ Below w5.heap.size w5 wz) (fun v _ => N - strZ v)
        case atStart => exact ⟨pre, rfl, hl0, HG0.out, Below.refl _ _⟩
        case round =>
          obtain ⟨u, rfl, hu1, hpu, hbz⟩ := hrel
          have HPU := Lib.hid hpu
          have HBZ := Lib.hid hbz
          have hus : (bs u).size = u.length := rfl
          obtain ⟨_, ea, _, f0, f1, f2, f3, f4, f5, f6, f7⟩ := KJ.out _ (HB8.out.trans (hbz.mono HB8.out.size))
          obtain rfl := Option.some.inj ea
          clear hpu hbz
          by_cases hl2 : u.length < N
          · have hl3 : (u.length : Int) < N := by omega
            have g9 : ∀ W, (Op.stringOp .add (bs u) ⟨#[255]⟩).run Tryz.prog W = .ok (.string (bs u ++ ⟨#[255]⟩)) W := fun W => run_string_add_sum _ _ _ (by rw [hus]; show _ + 1 ≤ _; omega)
            rw [push255] at g9
            go_wp2_with fail
            go_roundw
            case rel => exact ⟨u ++ [255], rfl, by simp; omega, (pad_step hl2).trans HPU.out, HBZ.out⟩
            case measure => (simp only [strZ]; show _ - (u ++ [255]).length < _ - u.length; simp; omega)
          · have hl3 : ¬ (u.length : Int) < N := by omega
            have hUG := (pad_full (show u.length = N by omega)).symm.trans HPU.out
            subst hUG
            have g9 : ∀ W, (Op.stringOp .add (bs u) (bs G)).run Tryz.prog W = .ok (.string (bs u ++ bs G)) W := fun W => run_string_add_sum _ _ _ (by rw [hus, HGS.out]; omega)
            rw [show bs u ++ bs G = bs (u ++ G) from ba_eq (by rw [ba_append])] at g9
            go_wp2_with fail
            go_roundw
            case rel => exact ⟨j + 1, endOf y, u ++ G, by omega, by go_num, rfl, by have := HEN.out; omega, hle, R4.out, by rw [List.length_append]; have := HEN.out; have := HGL.out; have := HN.out; omega, E2.out, HB.out.trans ((HB5.out.trans (HBZ.out.mono HB5.out.size)).mono HB.out.size)⟩
            case measure => (simp [intOf]; try omega)
      · have e1 := Lib.hid (E1.out tE)
        have tE' : (ge != 0) = true := by simp [tE]
        clear E2 E3 tE
        go_wp2_with (go_at_call 8; (with_reducible refine (cI.out _ HB9.out).mono ?_); rintro e w5 ⟨rfl, hb5⟩; have HB5 := Lib.hid hb5; clear hb5)
        go_ret2
        refine ⟨?_, HB9.out.trans (HB5.out.mono HB9.out.size)⟩
        rw [← e1.out]
        rfl
    · have e1 := Lib.hid ((area_end (k := k) (pre := pre) (a := a) hlt).symm.trans HR.out)
      obtain rfl : j = l.length := by omega
      obtain ⟨G, hG⟩ : ∃ G, G = pad 1024 pre := ⟨_, rfl⟩
      have HG := Lib.hid hG.symm
      have HII := Lib.hid (show R = (G, 0) by
        rw [← e1.out, hG, pad, show (64 * (16 - a)).toNat = 1024 - pre.length by omega])
      clear hlt hG hps hpl
      go_wp2_with fail
      go_loopw [6] (fun v wz => ∃ u : Tx, v = .string (bs u) ∧ u.length ≤ 1024 ∧ pad 1024 u = G ∧ Below wr.heap.size wr wz) (fun v _ => 1024 - strZ v)
      case atStart => exact ⟨pre, rfl, hpre, HG.out, Below.refl _ _⟩
      case round =>
        obtain ⟨u, rfl, hu1, hpu, hbz⟩ := hrel
        have HPU := Lib.hid hpu
        have HBZ := Lib.hid hbz
        have hus : (bs u).size = u.length := rfl
        clear hpu hbz
        by_cases hl2 : u.length < 1024
        · have hl3 : (u.length : Int) < 1024 := by omega
          have g9 : ∀ W, (Op.stringOp .add (bs u) ⟨#[255]⟩).run Tryz.prog W = .ok (.string (bs u ++ ⟨#[255]⟩)) W := fun W => run_string_add_sum _ _ _ (by rw [hus]; show _ + 1 ≤ _; omega)
          rw [push255] at g9
          go_wp2_with fail
          go_roundw
          case rel => exact ⟨u ++ [255], rfl, by simp; omega, (pad_step hl2).trans HPU.out, HBZ.out⟩
          case measure => (simp only [strZ]; show _ - (u ++ [255]).length < _ - u.length; simp; omega)
        · have hl3 : ¬ (u.length : Int) < 1024 := by omega
          have HU := Lib.hid ((pad_full (show u.length = 1024 by omega)).symm.trans HPU.out)
          go_wp2_with fail
          go_ret2
          refine ⟨?_, H0.out.trans ((HB.out.trans (HBZ.out.mono HB.out.size)).mono H0.out.size)⟩
          rw [HII.out, HU.out]
          rfl

end Go.Proofs.YtgkpbndeljnjcaaGreat
