import Derived.Test.YtjnfemcfohflnaaLPatchW
/- Bytes as they lie (chapter G): link.image. -/
namespace Go.Proofs.Ytjnfemcfohflnaa
open Go.RowKit
open Gs (Tx)

theorem addrs_length {k : Krn} {l : List Plc} : ∀ {r : List Imp}, (addrsOf k l r).2 = 0 → (addrsOf k l r).1.length = r.length
  | [], _ => rfl
  | i :: r, h => by
    unfold addrsOf at h ⊢
    by_cases h1 : (addrOf k l i).2 = 0
    · rw [if_neg (by omega)] at h ⊢
      by_cases h2 : (addrsOf k l r).2 = 0
      · rw [if_neg (by omega)]
        simp [addrs_length h2]
      · rw [if_pos h2] at h; exact absurd h h2
    · rw [if_pos h1] at h; exact absurd h h1
theorem pats_ok {z ni : Int} : ∀ {l : List Pat} {e : Int}, patsErr z ni e l = 0 → ∀ p ∈ l, p.sym < ni
  | p :: l, e, h, q, hq => by
    unfold patsErr at h
    by_cases h1 : patErr z ni e p = 0
    · rw [if_neg (by omega)] at h
      rcases List.mem_cons.1 hq with rfl | hq
      · unfold patErr at h1
        split at h1
        · omega
        · split at h1
          · omega
          · omega
      · exact pats_ok h q hq
    · rw [if_pos h1] at h; exact absurd h h1
theorem mod_pats {m : Mod} (h : modErr m = 0) : ∀ p ∈ m.pa, p.sym < m.im.length := by
  have hf := modErr_facts h
  have h5 := hf.2.2.2.2.2.2.2.2.1
  have h6 := hf.2.2.2.2.2.2.2.2.2.1
  unfold modErr at h
  obtain ⟨a1, a2, a3, a4, a5, a6, a7, a8, _, _, a9⟩ := hf
  rw [if_neg (by simp [a1, a2]), if_neg (by omega), if_neg (by omega), if_neg (by omega), if_neg (by omega), if_neg (by omega)] at h
  exact pats_ok h
theorem patchAll_err {at_ : List Int} {base : Int} {pa : List Pat} {s : ByteArray} {j : Nat} (h : j < pa.length) (e : applyErr s.size pa[j].kind pa[j].at_ pa[j].add (symOf at_ base pa[j]) base ≠ 0) :
    patchAll at_ base (pa.drop j) s = (⟨#[]⟩, applyErr s.size pa[j].kind pa[j].at_ pa[j].add (symOf at_ base pa[j]) base) := by
  rw [List.drop_eq_getElem_cons h, patchAll, if_pos e]
theorem patchAll_next {at_ : List Int} {base : Int} {pa : List Pat} {s : ByteArray} {j : Nat} (h : j < pa.length) (e : applyErr s.size pa[j].kind pa[j].at_ pa[j].add (symOf at_ base pa[j]) base = 0) :
    patchAll at_ base (pa.drop (j + 1)) (applyStr s pa[j].kind pa[j].at_ pa[j].add (symOf at_ base pa[j]) base) = patchAll at_ base (pa.drop j) s := by
  conv => rhs; rw [List.drop_eq_getElem_cons h, patchAll, if_neg (by omega)]
theorem patchAll_end {at_ : List Int} {base : Int} {pa : List Pat} {s : ByteArray} {j : Nat} (h : ¬ j < pa.length) : patchAll at_ base (pa.drop j) s = (s, 0) := by
  rw [List.drop_eq_nil_of_le (by omega)]; rfl
theorem pad_bytes (n : Nat) (s : ByteArray) : s ++ (ffs n).extract s.size (ffs n).size = bs (pad n (tx s)) := by
  refine ba_eq ?_
  rw [ba_append]
  rw [Lib.extract_to_end]
  show tx s ++ ((List.replicate n 255).toArray.toList.drop s.size) = (pad n (tx s)).toArray.toList
  simp only [pad, List.drop_replicate]
  rfl

set_option maxHeartbeats 8000000 in
set_option maxRecDepth 100000 in
theorem image_any (k : Krn) (A : Option Addr) (c : Nat) (l : List Plc) (x : Plc) (w : World) (hk : k.ok w) (h : PlsOk w A l) (hx : x.m.ok w) (hp : placedErr k l = 0) (hm : modErr x.m = 0) (h0 : 0 ≤ x.first) (h1 : x.first ≤ 16) :
    Calls Try.prog 9 #[k.v, .slice A l.length c, x.v] w fun e w' => e = .returned (.tuple #[.string (bs (imgOf k l x).1), .int .i64 (imgOf k l x).2]) ∧ Below w.heap.size w w' := by
  obtain ⟨X, hX⟩ : ∃ X, X = x := ⟨_, rfl⟩
  obtain ⟨⟨nm, mj, mn, tt, ex, im, pa, eA, eC, iA, iC, pA, pC⟩, fi⟩ := x
  obtain ⟨wk, hwk⟩ : ∃ wk, wk = w.alloc (.cells #[.int .i64 k.major, .int .i64 k.minor, .slice k.eA k.ex.length k.eC] 24) := ⟨_, rfl⟩
  obtain ⟨g0, g1, g2, hzk, hbk⟩ := box3 hwk
  obtain ⟨w0, hw0⟩ : ∃ w0, w0 = wk.alloc (.cells #[.string nm, .int .i64 mj, .int .i64 mn, .string tt, .slice eA ex.length eC, .slice iA im.length iC, .slice pA pa.length pC, .int .i64 fi] 36) := ⟨_, rfl⟩
  obtain ⟨f0, f1, f2, f3, f4, f5, f6, f7, hz0, hb0⟩ := box8 hw0
  rw [hzk] at f0 f1 f2 f3 f4 f5 f6 f7 hz0 hb0
  have k0 := (hb0.cell (p := ⟨w.heap.size, 0, none⟩) (by simp)).trans g0
  have k1 := (hb0.cell (p := ⟨w.heap.size, 1, none⟩) (by simp)).trans g1
  have k2 := (hb0.cell (p := ⟨w.heap.size, 2, none⟩) (by simp)).trans g2
  have hbw := hbk.trans (hb0.mono (by omega))
  have H0 := Lib.hid hbw
  have hwk' := hwk.symm
  have hw0' := hw0.symm
  have hfm := modErr_facts hm
  have HPS := Lib.hid (show ∀ p ∈ pa, p.sym < im.length from mod_pats hm)
  obtain ⟨mt1, mt2, mt3⟩ : (tt.size : Int) ≤ 64 * manyOf X.m ∧ 64 * manyOf X.m < tt.size + 64 ∧ 0 ≤ manyOf X.m := by rw [hX]; exact many_text _
  have hMany : 1 ≤ manyOf X.m ∧ manyOf X.m ≤ 4 := by rw [hX]; exact many_ok hm
  have ht : tt.size ≤ 256 := hfm.2.2.1
  have hi6 : im.length ≤ 6 := hfm.2.2.2.2.2.2.1
  have hpl : pa.length ≤ 12 := hfm.2.2.2.2.2.2.2.1
  have hf0 : 0 ≤ X.first := by rw [hX]; exact h0
  have hf1 : X.first ≤ 16 := by rw [hX]; exact h1
  have cA := Lib.hid (Addresses_any k A c l nm tt mj mn ex im pa eA iA pA eC iC pC w0 (hk.below hbw) (h.below hbw) (hx.below hbw).im hi6 hp)
  have cM := Lib.hid (show ∀ W, Calls Try.prog 22 #[.agg #[.string nm, .int .i64 mj, .int .i64 mn, .string tt, .slice eA ex.length eC, .slice iA im.length iC, .slice pA pa.length pC]] W fun e w' => e = .returned (.int .i64 (manyOf X.m)) ∧ Below W.heap.size W w' from fun W => by rw [hX]; exact Many_any ⟨nm, mj, mn, tt, ex, im, pa, eA, eC, iA, iC, pA, pC⟩ W (show tt.size ≤ big by unfold big; omega))
  have HAL := Lib.hid (addrs_length (k := k) (l := l) (r := im))
  have HPA := Lib.hid (show Row Pat.cells 4 w0 pA pa from (hx.below hbw).pa.1)
  have HLK := Lib.hid (show ∀ (W : World) sA n sC, Lk (W.alloc (.cells #[.string nm, .int .i64 mj, .int .i64 mn, .string tt, .slice eA ex.length eC, .slice iA im.length iC, .slice pA pa.length pC, .int .i64 fi, .slice sA n sC, .string tt] 66)) W.heap.size X sA n sC tt from fun W sA n sC => by rw [hX]; exact heap_alloc_new _ _)
  have hI : imgOf k l X = if (addrsOf k l im).2 ≠ 0 then ([], (addrsOf k l im).2) else if (patchAll (addrsOf k l im).1 (baseOf X) pa tt).2 ≠ 0 then ([], (patchAll (addrsOf k l im).1 (baseOf X) pa tt).2) else (pad (64 * (manyOf X.m).toNat) (tx (patchAll (addrsOf k l im).1 (baseOf X) pa tt).1), 0) := by rw [hX]; rfl
  change Calls Try.prog 9 #[k.v, .slice A l.length c, .agg #[.string nm, .int .i64 mj, .int .i64 mn, .string tt, .slice eA ex.length eC, .slice iA im.length iC, .slice pA pa.length pC, .int .i64 fi]] w _
  rw [← hX]
  obtain ⟨I, hII⟩ : ∃ I, I = imgOf k l X := ⟨_, rfl⟩
  rw [← hII] at hI ⊢
  generalize addrsOf k l im = ad at *
  obtain ⟨ns, er⟩ := ad
  simp only at cA HAL hI
  clear hII hwk hw0 hbk hb0 hbw g0 g1 g2 hk h hx hp hm hfm h0 h1 hX
  have hz1 : w.heap.size + 1 < w0.heap.size := by omega
  have hz2 : w.heap.size < w0.heap.size := by omega
  clear hz0
  by_cases te : er = 0
  · subst te
    rw [if_neg (by simp)] at hI
    have hnl := HAL.out rfl
    obtain ⟨R, hRR⟩ : ∃ R, R = patchAll ns (baseOf X) pa tt := ⟨_, rfl⟩
    rw [← hRR] at hI
    have HRR := Lib.hid hRR.symm
    have HI := Lib.hid hI
    have HNL := Lib.hid hnl
    clear hI hRR hnl HAL
    go_enter Try.func9, Try.ntmps9
    go_wp2_with (go_at_call 20; (with_reducible refine (cA.out).mono ?_); rintro e w2 ⟨⟨sA, sC, rfl, hr2⟩, hb2⟩; have HR2 := Lib.hid hr2; have HB2 := Lib.hid hb2; obtain ⟨hc2, hf2⟩ := bcell hb2; have hz3 : w.heap.size + 1 < w2.heap.size := (by have := hb2.size; omega); have hz4 : w.heap.size < w2.heap.size := (by omega); clear hr2 hb2)
    have HL0 := Lib.hid (HLK.out w2 sA ns.length sC)
    have HAL0 := Lib.hid (fun cs => (Below.refl w2.heap.size w2).alloc (Nat.le_refl _) (.cells cs 66))
    have HPA2 := Lib.hid (HPA.out.below HB2.out)
    clear hc2 hf2
    go_loopw [37] (fun i wr => ∃ (j : Nat) (s : ByteArray), j ≤ pa.length ∧ i = .int .i64 j ∧ Lk wr w2.heap.size X sA ns.length sC s ∧ s.size = tt.size ∧ patchAll ns (baseOf X) (pa.drop j) s = R ∧ Below w2.heap.size w2 wr) (fun i _ => pa.length - (intOf i).toNat)
    case atStart => exact ⟨0, tt, by omega, rfl, HL0.out, rfl, HRR.out, HAL0.out _⟩
    case round =>
      obtain ⟨j, s, hj, rfl, hL, hsz, hR, hb⟩ := hrel
      have HL := Lib.hid hL
      have HSZ := Lib.hid hsz
      have HR := Lib.hid hR
      have HB := Lib.hid hb
      have hsz9 : s.size ≤ 256 := by omega
      clear hL hsz hR
      by_cases hlt : j < pa.length
      · have hlt' : (j : Int) < pa.length := by omega
        obtain ⟨pd, rfl, hpb, a0, a1, a2, a3⟩ := pat_at HPA2.out hb j hlt
        have hsy := HPS.out pa[j] (List.getElem_mem _)
        have E1 := Lib.hid (fun e => (patchAll_err (at_ := ns) (base := baseOf X) (s := s) hlt e).symm.trans HR.out)
        have E2 := Lib.hid (fun e => (patchAll_next (at_ := ns) (base := baseOf X) (s := s) hlt e).trans HR.out)
        have E3 := Lib.hid (show applyErr s.size pa[j].kind pa[j].at_ pa[j].add (symOf ns (baseOf X) pa[j]) (baseOf X) = 0 → (applyStr s pa[j].kind pa[j].at_ pa[j].add (symOf ns (baseOf X) pa[j]) (baseOf X)).size = s.size from fun e => applyStr_size e)
        obtain ⟨q, hq⟩ : ∃ q, q = pa[j]'hlt := ⟨_, rfl⟩
        rw [← hq] at a0 a1 a2 a3 hsy
        simp only [← hq] at E1 E2 E3
        obtain ⟨wq, hwq⟩ : ∃ wq, wq = wr.alloc (.cells #[.int .i64 q.kind, .int .i64 q.at_, .int .i64 q.sym, .int .i64 q.add] 39) := ⟨_, rfl⟩
        obtain ⟨y0, y1, y2, y3, hzq, hbq⟩ := box4 hwq
        have hwq' := hwq.symm
        have hwz : wr.heap.size < wq.heap.size := by omega
        have cP := Lib.hid (lpatch_any X w2.heap.size sA sC ns s q wq (HL.out.kept hbq) ((HR2.out.below hb).below hbq) (by omega) hf0 hf1 (by have := HNL.out; omega))
        have HBQ := Lib.hid (hb.trans (hbq.mono hb.size))
        obtain ⟨E, hE⟩ : ∃ E, E = applyErr s.size q.kind q.at_ q.add (symOf ns (baseOf X) q) (baseOf X) := ⟨_, rfl⟩
        obtain ⟨T, hT⟩ : ∃ T, T = applyStr s q.kind q.at_ q.add (symOf ns (baseOf X) q) (baseOf X) := ⟨_, rfl⟩
        simp only [← hE, ← hT] at cP E1 E2 E3
        clear hq hwq hzq hbq hE hT hb hsy
        by_cases tE : E = 0
        · subst tE
          have e2 := Lib.hid (E2.out rfl)
          have e3 := Lib.hid ((E3.out rfl).trans HSZ.out)
          go_wp2_with (go_at_call 21; (with_reducible refine (cP.out).mono ?_); rintro e w5 ⟨rfl, hL5, hg5⟩; have HL5 := Lib.hid hL5; have HG5 := Lib.hid hg5; clear hL5 hg5)
          go_roundw
          case rel => exact ⟨j + 1, T, by omega, by go_num, HL5.out, e3.out, e2.out, HBQ.out.grown HG5.out HBQ.out.size (fun g hg => by injection hg with hg; omega)⟩
          case measure => (simp [intOf]; try omega)
        · have e1 := Lib.hid (E1.out tE)
          have tE' : (E != 0) = true := by simp [tE]
          have HTE := Lib.hid tE
          clear tE
          go_wp2_with (go_at_call 21; (with_reducible refine (cP.out).mono ?_); rintro e w5 ⟨rfl, hL5, hg5⟩; have HL5 := Lib.hid hL5; have HG5 := Lib.hid hg5; clear hL5 hg5)
          go_ret2
          refine ⟨?_, H0.out.trans ((HB2.out.trans ((HBQ.out.grown HG5.out HBQ.out.size (fun g hg => by injection hg with hg; omega)).mono HB2.out.size)).mono H0.out.size)⟩
          rw [HI.out, ← e1.out, if_pos HTE.out]; rfl
      · have e1 := Lib.hid ((patchAll_end (at_ := ns) (base := baseOf X) (s := s) hlt).symm.trans HR.out)
        obtain rfl : j = pa.length := by omega
        have HBW := Lib.hid (H0.out.trans ((HB2.out.trans (hb.mono HB2.out.size)).mono H0.out.size))
        have hb0 := HB2.out.trans (hb.mono HB2.out.size)
        have m0 := (hb0.cell (p := ⟨w.heap.size + 1, 0, none⟩) hz1).trans f0
        have m1 := (hb0.cell (p := ⟨w.heap.size + 1, 1, none⟩) hz1).trans f1
        have m2 := (hb0.cell (p := ⟨w.heap.size + 1, 2, none⟩) hz1).trans f2
        have m3 := (hb0.cell (p := ⟨w.heap.size + 1, 3, none⟩) hz1).trans f3
        have m4 := (hb0.cell (p := ⟨w.heap.size + 1, 4, none⟩) hz1).trans f4
        have m5 := (hb0.cell (p := ⟨w.heap.size + 1, 5, none⟩) hz1).trans f5
        have m6 := (hb0.cell (p := ⟨w.heap.size + 1, 6, none⟩) hz1).trans f6
        obtain ⟨M, hMM⟩ : ∃ M : Nat, manyOf X.m = M := ⟨(manyOf X.m).toNat, by omega⟩
        have cB := Lib.hid (fun W => lblank_any M W (by omega))
        have HPB := Lib.hid (pad_bytes (64 * M) s)
        have HFS := Lib.hid (ffs_size (64 * M))
        rw [hMM] at cM mt1 mt2
        have HMN := Lib.hid (show (manyOf X.m).toNat = M by omega)
        have hM4 : M ≤ 4 := by omega
        have hs9 : s.size ≤ 64 * M := by have := HSZ.out; omega
        clear hb hb0 hlt f0 f1 f2 f3 f4 f5 f6 f7 k0 k1 k2 mt3 hMany hMM
        go_wp2_with (go_at_call 22; (with_reducible refine (cM.out _).mono ?_); rintro e w6 ⟨rfl, hb6⟩; have HB6 := Lib.hid hb6; have hL6 := HL.out.kept hb6; have z9 : w6.cell? ⟨w2.heap.size, 9, none⟩ = some (.string s) := hL6.cell 9; have hlt6 := hL6.lt; clear hb6 hL6 m0 m1 m2 m3 m4 m5 m6)
        have HC0 := Lib.hid (show Below w6.heap.size w6 w6 ∧ w6.cell? ⟨w2.heap.size, 9, none⟩ = some (.string s) from ⟨Below.refl _ _, by assumption⟩)
        have HCD := Lib.hid (show ∀ W' : World, (Below w6.heap.size w6 W' ∧ W'.cell? ⟨w2.heap.size, 9, none⟩ = some (.string s)) → (Below w6.heap.size w6 W'.drew ∧ W'.drew.cell? ⟨w2.heap.size, 9, none⟩ = some (.string s)) from fun W' ⟨b, a0⟩ => ⟨b.drew, a0⟩)
        have HCS := Lib.hid (show ∀ W' W2 : World, (Below w6.heap.size w6 W' ∧ W'.cell? ⟨w2.heap.size, 9, none⟩ = some (.string s)) → Below W'.heap.size W' W2 → (Below w6.heap.size w6 W2 ∧ W2.cell? ⟨w2.heap.size, 9, none⟩ = some (.string s)) from fun W' W2 ⟨b, a0⟩ hb => have s := b.size; ⟨b.trans (hb.mono s), (hb.cell (by first | omega | (simp; omega) | (simp only [block_of_add]; omega))).trans a0⟩)
        have HCA := Lib.hid (show ∀ (W' : World) (o : Obj), (Below w6.heap.size w6 W' ∧ W'.cell? ⟨w2.heap.size, 9, none⟩ = some (.string s)) → (Below w6.heap.size w6 (W'.alloc o) ∧ (W'.alloc o).cell? ⟨w2.heap.size, 9, none⟩ = some (.string s)) from fun W' o hc => HCS.out W' (W'.alloc o) hc ((Below.refl _ _).alloc (Nat.le_refl _) o))
        have HCX := Lib.hid (show ∀ (W' : World) (bX oX : Nat) (vX : Value), w6.heap.size ≤ bX → (Below w6.heap.size w6 W' ∧ W'.cell? ⟨w2.heap.size, 9, none⟩ = some (.string s)) → (Below w6.heap.size w6 (W'.setCell ⟨bX, oX, none⟩ vX) ∧ (W'.setCell ⟨bX, oX, none⟩ vX).cell? ⟨w2.heap.size, 9, none⟩ = some (.string s)) from fun W' bX oX vX hbX ⟨b, a0⟩ => ⟨b.setCell (p := ⟨bX, oX, none⟩) hbX vX, (((Below.refl _ _).setCell (p := ⟨bX, oX, none⟩) hbX vX).cell (by first | omega | (simp; omega) | (simp only [block_of_add]; omega))).trans a0⟩)
        have HCL := Lib.hid (show ∀ W' : World, (Below w6.heap.size w6 W' ∧ W'.cell? ⟨w2.heap.size, 9, none⟩ = some (.string s)) → Below w6.heap.size w6 W' from fun W' hc => hc.1)
        generalize ffs (64 * M) = F at *
        have g1 : s.size ≤ F.size := by rw [HFS.out]; exact hs9
        have g2 : F.size ≤ 256 := by rw [HFS.out]; omega
        have g3 : ∀ W, (Op.stringOp .add s (F.extract s.size F.size)).run Try.prog W = .ok (.string (s ++ F.extract s.size F.size)) W := fun W => run_string_add_sum _ _ _ (by rw [ByteArray.size_extract]; omega)
        clear z9
        go_region_held3 (fun W' => Below w6.heap.size w6 W' ∧ W'.cell? ⟨w2.heap.size, 9, none⟩ = some (.string s)) (first | exact HC0.out | exact HCD.out _ HC0.out | exact HCS.out _ _ (by assumption) (by assumption) | exact HCS.out _ _ HC0.out (by assumption) | exact HCS.out _ _ (HCD.out _ HC0.out) (by assumption) | exact HCS.out _ _ (HCD.out _ (by assumption)) (by assumption) | exact HCD.out _ (by assumption) | exact HCA.out _ _ (by assumption) | exact HCA.out _ _ HC0.out | exact HCA.out _ _ (HCD.out _ HC0.out) | exact HCD.out _ (HCA.out _ _ (by assumption)) | exact HCA.out _ _ (HCS.out _ _ HC0.out (by assumption)) | exact HCA.out _ _ (HCS.out _ _ (HCD.out _ HC0.out) (by assumption)) | exact HCX.out _ _ _ _ (Nat.le_refl _) (by assumption) | exact HCX.out _ _ _ _ (Nat.le_refl _) (HCS.out _ _ (HCA.out _ _ HC0.out) (by assumption)) | exact HCX.out _ _ _ _ (Nat.le_refl _) (HCS.out _ _ (HCD.out _ (HCA.out _ _ HC0.out)) (by assumption)) | assumption) (first | (go_at_call 11; (with_reducible refine (cB.out _).mono ?_); rintro e w7 ⟨rfl, hb7⟩))
        have hB := Lib.hid (HCL.out _ (by assumption))
        go_wp2_with fail
        go_ret2
        refine ⟨?_, HBW.out.trans ((HB6.out.trans (hB.out.mono HB6.out.size)).mono HBW.out.size)⟩
        rw [HI.out, ← e1.out, if_neg (by simp), HMN.out]
        show _ = Ending.returned (.tuple #[.string (bs (pad (64 * M) (tx s))), .int .i64 0])
        rw [← HPB.out]; rfl
  · rw [if_pos te] at hI
    have te' : (er != 0) = true := by simp [te]
    have HI := Lib.hid hI
    clear hI te HAL
    go_enter Try.func9, Try.ntmps9
    go_wp2_with (go_at_call 20; (with_reducible refine (cA.out).mono ?_); rintro e w2 ⟨⟨sA, sC, rfl, hr2⟩, hb2⟩; have HB2 := Lib.hid hb2; clear hr2 hb2)
    go_ret2
    exact ⟨by rw [HI.out]; rfl, H0.out.trans (HB2.out.mono H0.out.size)⟩

end Go.Proofs.Ytjnfemcfohflnaa
