import Derived.Test.YtogckcjcebckgaaGreatKPlanThere
import Derived.Test.YtogckcjcebckgaaGreatG08
import Derived.Test.YtogckcjcebckgaaGreatG15
import Derived.Test.YtogckcjcebckgaaGreatKShut
/- CompactRoom: behind Pack a module finds no room only if all free sectors together are too few. No condition. -/
namespace Go.Proofs.YtogckcjcebckgaaGreat
open Go.ChangeShapes Go.WideShapes Go.ChangeAt Go.RowKit Go.WideMaps Go.WideElems
open Go.ChangeMaps (setBlock shut_map_nil open_string shut_string keptBut_setBlock frozen?_setBlock heap_setBlock_same)

theorem sumMods_bare : ∀ l : List Plc, sumMods (bares l) = sumMods l
  | [] => rfl
  | x :: l => by
    show manyOf x.bare.m + sumMods (bares l) = _
    rw [sumMods_bare l]; rfl
theorem sumMods_map : ∀ {l l' : List Plc}, l.map (·.m) = l'.map (·.m) → sumMods l = sumMods l'
  | [], [], _ => rfl
  | x :: l, y :: l', h => by
    have h1 : x.m = y.m := (List.cons.inj h).1
    have h2 : l.map (·.m) = l'.map (·.m) := (List.cons.inj h).2
    show manyOf x.m + sumMods l = manyOf y.m + sumMods l'
    rw [h1, sumMods_map h2]
theorem room_law {k kb : Krn} {l lb : List Plc} {m : Mod} (h : rgErr k l = 0) (hk : kb.bare = k.bare) (hl : bares lb = bares (packL 0 l).1) (h8 : planErr kb ⟨1, m, ⟨#[]⟩⟩ lb = 8) : modErr m = 0 ∧ sumRuns (runsOf l) < manyOf m := by
  obtain ⟨p1, _, _⟩ := packed_facts h hk hl
  unfold planErr at h8
  rw [if_neg (by omega)] at h8
  obtain ⟨e1, e2⟩ := space_inst h8
  have hr := (rg_facts h).2.1
  have hrb := (rg_facts p1).2.1
  have s1 := sum_all hr
  have s2 := sum_all hrb
  have s3 : sumMods lb = sumMods l := by rw [← sumMods_bare, hl, sumMods_bare]; exact sumMods_map pack_mods
  have hm := (many_ok e1).1
  refine ⟨e1, ?_⟩
  have s4 : sumRuns (runsOf l) = sumRuns (runsOf lb) := by unfold runsOf; omega
  rw [s4]
  rcases packed_runs hr hl with h0 | ⟨s, hs0, hs1, h0⟩
  · rw [h0]; show (0 : Int) < _; omega
  · rw [h0] at e2 ⊢
    have e3 : ¬ manyOf m ≤ 16 - s := fun q => by
      unfold fitIn at e2
      rw [List.find?_cons_of_pos (by simpa using q)] at e2
      simp only at e2
      omega
    show (16 - s) + 0 < _
    omega
theorem sum_bound : ∀ {R : List Run}, (∀ r ∈ R, 0 ≤ r.many ∧ r.many ≤ 16) → 0 ≤ sumRuns R ∧ sumRuns R ≤ 16 * R.length
  | [], _ => by show (0 : Int) ≤ 0 ∧ (0 : Int) ≤ _; omega
  | r :: R, h => by
    have h1 := h r (by simp)
    have h2 := sum_bound (R := R) fun x hx => h x (List.mem_cons_of_mem _ hx)
    show 0 ≤ r.many + sumRuns R ∧ r.many + sumRuns R ≤ _
    rw [List.length_cons]
    omega

set_option maxRecDepth 100000 in
set_option maxHeartbeats 4000000 in
theorem CompactRoom_any (k : Krn) (A : Option Addr) (l : List Plc) (c : Nat) (m : Mod) (w : World) (hk : k.ok w) (h : PlsOk w A l) (hm : m.ok w) :
    Calls Tryz.prog 10 #[.agg #[.int .i64 k.major, .int .i64 k.minor, .slice k.eA k.ex.length k.eC, .slice A l.length c], m.v] w fun e w' => e = .returned (.bool true) ∧ Below w.heap.size w w' := by
  obtain ⟨w0, e0⟩ : ∃ w0, w0 = w := ⟨_, rfl⟩
  have HB0 := Lib.hid (show Below w.heap.size w w0 from e0 ▸ Below.refl _ _)
  have HT0 := Lib.hid (show RgThere w0 k A l from e0 ▸ ⟨hk, h⟩)
  have HMO0 := Lib.hid (show m.ok w0 from e0 ▸ hm)
  subst e0
  obtain ⟨w1, hw1⟩ : ∃ w1, w1 = w0.alloc (.cells #[.int .i64 k.major, .int .i64 k.minor, .slice k.eA k.ex.length k.eC, .slice A l.length c] 39) := ⟨_, rfl⟩
  have hb1 : Below w0.heap.size w0 w1 := hw1 ▸ (Below.refl _ _).alloc (Nat.le_refl _) _
  have HB1 := Lib.hid (HB0.out.trans (hb1.mono HB0.out.size))
  have HT1 := Lib.hid (HT0.out.below hb1)
  have HMO1 := Lib.hid (HMO0.out.below hb1)
  have HR1 := Lib.hid (show w1.heap[w0.heap.size]? = some (.cells #[.int .i64 k.major, .int .i64 k.minor, .slice k.eA k.ex.length k.eC, .slice A l.length c] 39 (0, 0)) by rw [hw1]; exact heap_alloc_new w0 _)
  have HSZ1 := Lib.hid (show w1.heap.size = w0.heap.size + 1 by rw [hw1]; simp)
  have hw1' := hw1.symm
  clear hw1 hb1
  obtain ⟨w2, hw2⟩ : ∃ w2, w2 = w1.alloc (.cells #[.string m.name, .int .i64 m.major, .int .i64 m.minor, .string m.text, .slice m.eA m.ex.length m.eC, .slice m.iA m.im.length m.iC, .slice m.pA m.pa.length m.pC] 75) := ⟨_, rfl⟩
  have hb2 : Below w1.heap.size w1 w2 := hw2 ▸ (Below.refl _ _).alloc (Nat.le_refl _) _
  have hneRM := Lib.hid (Nat.ne_of_lt (Array.getElem?_eq_some_iff.1 HR1.out).1)
  have HB2 := Lib.hid (HB1.out.trans (hb2.mono HB1.out.size))
  have HT2 := Lib.hid (HT1.out.below hb2)
  have HMO2 := Lib.hid (HMO1.out.below hb2)
  have HR2 := Lib.hid (blk' hb2 HR1.out)
  have HM2 := Lib.hid (show w2.heap[w1.heap.size]? = some (.cells #[.string m.name, .int .i64 m.major, .int .i64 m.minor, .string m.text, .slice m.eA m.ex.length m.eC, .slice m.iA m.im.length m.iC, .slice m.pA m.pa.length m.pC] 75 (0, 0)) by rw [hw2]; exact heap_alloc_new w1 _)
  have HSZ2 := Lib.hid (show w2.heap.size = w1.heap.size + 1 by rw [hw2]; simp)
  have hw2' := hw2.symm
  clear hw2 hb2
  have c1 := Lib.hid (fun W (hb : Below w0.heap.size w0 W) => CPack_any k A c l W (hk.below hb) (h.below hb))
  have hmP := Lib.hid (pack_mods (l := l) (a := 0))
  have HU := Lib.hid (there_of (E := rgErr k l) hk h)
  obtain ⟨E, hE⟩ : ∃ E, E = rgErr k l := ⟨_, rfl⟩
  have HE := Lib.hid hE
  rw [← hE] at c1 HU
  have cS := Lib.hid (fun W (hb : Below w0.heap.size w0 W) => Size_any m W (hm.below hb))
  clear hk h hm hE
  go_enter Tryz.func10, Tryz.ntmps10
  go_wp2_with fail
  refine (compactBegun_any _).mono ?_; rintro e w3 ⟨rfl, hb3⟩
  have HB3 := Lib.hid (HB2.out.trans (hb3.mono HB2.out.size))
  have HT3 := Lib.hid (HT2.out.below hb3)
  have HMO3 := Lib.hid (HMO2.out.below hb3)
  have HR3 := Lib.hid (blk' hb3 HR2.out)
  have HM3 := Lib.hid (blk' hb3 HM2.out)
  clear hb3
  go_wp2_with fail
  refine (planBegun_any _).mono ?_; rintro e w4 ⟨rfl, hb4⟩
  have HB4 := Lib.hid (HB3.out.trans (hb4.mono HB3.out.size))
  have HT4 := Lib.hid (HT3.out.below hb4)
  have HMO4 := Lib.hid (HMO3.out.below hb4)
  have HR4 := Lib.hid (blk' hb4 HR3.out)
  have HM4 := Lib.hid (blk' hb4 HM3.out)
  clear hb4
  go_wp2_with fail
  refine (regionBegun_any _).mono ?_; rintro e w5 ⟨rfl, hb5⟩
  have HB5 := Lib.hid (HB4.out.trans (hb5.mono HB4.out.size))
  have HT5 := Lib.hid (HT4.out.below hb5)
  have HMO5 := Lib.hid (HMO4.out.below hb5)
  have HR5 := Lib.hid (blk' hb5 HR4.out)
  have HM5 := Lib.hid (blk' hb5 HM4.out)
  clear hb5
  obtain ⟨_, r0, r1, r2, r3, rf0, rf1, rf2, rf3⟩ := rgcells HR5.out
  go_wp2_with fail
  refine (c1.out _ HB5.out).mono ?_; rintro e w6 ⟨⟨n, k1, A1, l1, n1, rfl, hn, hrg⟩, hb6⟩
  have HB6 := Lib.hid (HB5.out.trans (hb6.mono HB5.out.size))
  have HT6 := Lib.hid (HT5.out.below hb6)
  have HMO6 := Lib.hid (HMO5.out.below hb6)
  have HR6 := Lib.hid (blk' hb6 HR5.out)
  have HM6 := Lib.hid (blk' hb6 HM5.out)
  have HP6 := Lib.hid (HU.out _ _ _ _ _ _ _ hmP.out hrg).1
  have HS1 := Lib.hid (HU.out _ _ _ _ _ _ _ hmP.out hrg).2
  clear r0 r1 r2 r3 rf0 rf1 rf2 rf3
  clear hrg hb6 hn
  obtain ⟨w7, hw7⟩ : ∃ w7, w7 = w6.alloc (.cells #[.int .i64 k1.major, .int .i64 k1.minor, .slice k1.eA k1.ex.length k1.eC, .slice A1 l1.length n1] 39) := ⟨_, rfl⟩
  have hb7 : Below w6.heap.size w6 w7 := hw7 ▸ (Below.refl _ _).alloc (Nat.le_refl _) _
  have hneRA := Lib.hid (Nat.ne_of_lt (Array.getElem?_eq_some_iff.1 HR6.out).1)
  have hneMA := Lib.hid (Nat.ne_of_lt (Array.getElem?_eq_some_iff.1 HM6.out).1)
  have HB7 := Lib.hid (HB6.out.trans (hb7.mono HB6.out.size))
  have HT7 := Lib.hid (HT6.out.below hb7)
  have HMO7 := Lib.hid (HMO6.out.below hb7)
  have HR7 := Lib.hid (blk' hb7 HR6.out)
  have HM7 := Lib.hid (blk' hb7 HM6.out)
  have HP7 := Lib.hid (HP6.out.below hb7)
  have HA7 := Lib.hid (show w7.heap[w6.heap.size]? = some (.cells #[.int .i64 k1.major, .int .i64 k1.minor, .slice k1.eA k1.ex.length k1.eC, .slice A1 l1.length n1] 39 (0, 0)) by rw [hw7]; exact heap_alloc_new w6 _)
  have HSZ7 := Lib.hid (show w7.heap.size = w6.heap.size + 1 by rw [hw7]; simp)
  have hw7' := hw7.symm
  clear hw7 hb7
  by_cases t : E = 0
  · obtain ⟨q1, q2⟩ := HS1.out.1 t
    have HRG := Lib.hid (HE.out.symm.trans t)
    have HL := Lib.hid (fun (h8 : planErr k1 ⟨1, m, ⟨#[]⟩⟩ l1 = 8) => room_law HRG.out q1 q2 h8)
    have f2 := Lib.hid (PInstall_any k1 A1 n1 l1 m w7 HP7.out.1 HP7.out.2 HMO7.out)
    obtain ⟨F, hF⟩ : ∃ F, F = planErr k1 ⟨1, m, ⟨#[]⟩⟩ l1 := ⟨_, rfl⟩
    rw [← hF] at f2 HL
    subst t
    clear q1 q2 hF
    obtain ⟨_, r0, r1, r2, r3, rf0, rf1, rf2, rf3⟩ := rgcells HA7.out
    obtain ⟨n0, n1, n2, n3, n4, n5, n6⟩ := box_mod HM7.out
    go_wp2_with fail
    refine (f2.out).mono ?_; rintro e w8 ⟨⟨k2, A2, l2, c2, rfl, hrg⟩, hb8⟩
    have HB8 := Lib.hid (HB7.out.trans (hb8.mono HB7.out.size))
    have HT8 := Lib.hid (HT7.out.below hb8)
    have HMO8 := Lib.hid (HMO7.out.below hb8)
    have HR8 := Lib.hid (blk' hb8 HR7.out)
    have HM8 := Lib.hid (blk' hb8 HM7.out)
    have HP8 := Lib.hid (HP7.out.below hb8)
    have HA8 := Lib.hid (blk' hb8 HA7.out)
    clear r0 r1 r2 r3 rf0 rf1 rf2 rf3
    clear hrg hb8 f2 n0 n1 n2 n3 n4 n5 n6
    obtain ⟨w9, hw9⟩ : ∃ w9, w9 = w8.alloc (.cells #[.int .i64 k2.major, .int .i64 k2.minor, .slice k2.eA k2.ex.length k2.eC, .slice A2 l2.length c2] 39) := ⟨_, rfl⟩
    have hb9 : Below w8.heap.size w8 w9 := hw9 ▸ (Below.refl _ _).alloc (Nat.le_refl _) _
    have hneRD := Lib.hid (Nat.ne_of_lt (Array.getElem?_eq_some_iff.1 HR8.out).1)
    have hneMD := Lib.hid (Nat.ne_of_lt (Array.getElem?_eq_some_iff.1 HM8.out).1)
    have hneAD := Lib.hid (Nat.ne_of_lt (Array.getElem?_eq_some_iff.1 HA8.out).1)
    have HB9 := Lib.hid (HB8.out.trans (hb9.mono HB8.out.size))
    have HT9 := Lib.hid (HT8.out.below hb9)
    have HMO9 := Lib.hid (HMO8.out.below hb9)
    have HR9 := Lib.hid (blk' hb9 HR8.out)
    have HM9 := Lib.hid (blk' hb9 HM8.out)
    have HP9 := Lib.hid (HP8.out.below hb9)
    have HA9 := Lib.hid (blk' hb9 HA8.out)
    have HD9 := Lib.hid (show w9.heap[w8.heap.size]? = some (.cells #[.int .i64 k2.major, .int .i64 k2.minor, .slice k2.eA k2.ex.length k2.eC, .slice A2 l2.length c2] 39 (0, 0)) by rw [hw9]; exact heap_alloc_new w8 _)
    have HSZ9 := Lib.hid (show w9.heap.size = w8.heap.size + 1 by rw [hw9]; simp)
    have hw9' := hw9.symm
    clear hw9 hb9
    by_cases t : F = 8
    · obtain ⟨em, hlt⟩ := HL.out t
      subst t
      have hreg := rg_reg HRG.out
      have cS' := cS.out w9 HB9.out
      rw [em, if_neg (by simp)] at cS'
      have CS := Lib.hid cS'
      have cF := Lib.hid (fun W (hW : PlsOk W A l) => Free_any A c l W hW)
      have hfr : freeOf l = runsOf l := by unfold freeOf; rw [if_neg (by omega)]
      rw [hreg, hfr] at cF
      have hrr := runs_range (rg_facts HRG.out).2.1
      have hrl := runsFrom_length l 0
      have hl8 := (rg_facts HRG.out).2.2.1
      obtain ⟨RS, hRS⟩ : ∃ RS, RS = runsOf l := ⟨_, rfl⟩
      have hrr' : ∀ r ∈ RS, 0 ≤ r.many ∧ r.many ≤ 16 := fun r hr => by have := hrr r (by rw [hRS] at hr; exact hr); omega
      have hrl' : RS.length ≤ 20 := by rw [hRS]; unfold runsOf; omega
      rw [← hRS] at cF hlt
      have HRR := Lib.hid hrr'
      have HRL := Lib.hid hrl'
      obtain ⟨mm, hmm⟩ : ∃ mm, mm = manyOf m := ⟨_, rfl⟩
      rw [← hmm] at CS hlt
      have HLT := Lib.hid hlt
      clear em hlt hreg cS' hfr hrr hrl hl8 hrr' hrl' hRS hmm
      obtain ⟨n0, n1, n2, n3, n4, n5, n6⟩ := box_mod HM9.out
      go_wp2_with fail
      refine (CS.out).mono ?_; rintro e w10 ⟨rfl, hb10⟩
      have HB10 := Lib.hid (HB9.out.trans (hb10.mono HB9.out.size))
      have HT10 := Lib.hid (HT9.out.below hb10)
      have HMO10 := Lib.hid (HMO9.out.below hb10)
      have HR10 := Lib.hid (blk' hb10 HR9.out)
      have HM10 := Lib.hid (blk' hb10 HM9.out)
      have HP10 := Lib.hid (HP9.out.below hb10)
      have HA10 := Lib.hid (blk' hb10 HA9.out)
      have HD10 := Lib.hid (blk' hb10 HD9.out)
      clear hb10 CS n0 n1 n2 n3 n4 n5 n6
      obtain ⟨_, r0, r1, r2, r3, rf0, rf1, rf2, rf3⟩ := rgcells HR10.out
      go_wp2_with fail
      refine (cF.out _ HT10.out.2).mono ?_; rintro e w11 ⟨⟨A8, c8, rfl, hrun⟩, hb11⟩
      have HB11 := Lib.hid (HB10.out.trans (hb11.mono HB10.out.size))
      have HT11 := Lib.hid (HT10.out.below hb11)
      have HMO11 := Lib.hid (HMO10.out.below hb11)
      have HR11 := Lib.hid (blk' hb11 HR10.out)
      have HM11 := Lib.hid (blk' hb11 HM10.out)
      have HP11 := Lib.hid (HP10.out.below hb11)
      have HA11 := Lib.hid (blk' hb11 HA10.out)
      have HD11 := Lib.hid (blk' hb11 HD10.out)
      have HRUN := Lib.hid hrun
      clear r0 r1 r2 r3 rf0 rf1 rf2 rf3
      clear hb11 hrun cF
      go_wp2_with fail
      go_loopw [13, 14] (fun s i wr => ∃ q : Nat, q ≤ RS.length ∧ i = .int .i64 q ∧ s = .int .i64 (sumRuns (RS.take q)) ∧ Below w11.heap.size w11 wr) (fun _ i _ => RS.length - (intOf i).toNat)
      case atStart => exact ⟨0, by omega, rfl, rfl, Below.refl _ _⟩
      case round =>
        obtain ⟨q, hq, rfl, rfl, hb⟩ := hrel
        have HB := Lib.hid hb
        have hrl2 := HRL.out
        by_cases hlt : q < RS.length
        · have hlt' : (q : Int) < RS.length := by omega
          obtain ⟨ad, rfl, hab, u0, u1⟩ := run_at HRUN.out hb q hlt
          have hsb := sum_bound (R := RS.take q) (fun r hr => HRR.out r (List.mem_of_mem_take hr))
          have hmy := HRR.out RS[q] (List.getElem_mem _)
          have htk : sumRuns (RS.take (q + 1)) = sumRuns (RS.take q) + RS[q].many := by
            rw [List.take_succ_eq_append_getElem hlt, sumRuns_append]
            show _ + (RS[q].many + 0) = _
            omega
          rw [List.length_take] at hsb
          have HTK := Lib.hid htk
          obtain ⟨sm, hsm⟩ : ∃ sm, sm = sumRuns (RS.take q) := ⟨_, rfl⟩
          obtain ⟨y, hy⟩ : ∃ y, y = RS[q]'hlt := ⟨_, rfl⟩
          simp only [← hsm, ← hy] at hsb hmy HTK u0 u1 ⊢
          have hw1 : wrap64 (sm + y.many) = sm + y.many := IntWalk.wrap64_in _ (by omega)
          clear hb htk hsm hy
          go_wp2_with fail
          go_roundw
          case rel => exact ⟨q + 1, by omega, by go_num, by rw [HTK.out], HB.out⟩
          case measure => (simp [intOf]; try omega)
        · obtain rfl : q = RS.length := by omega
          have hd : decide (sumRuns RS < mm) = true := decide_eq_true HLT.out
          rw [List.take_length]
          obtain ⟨sm, hsm⟩ : ∃ sm, sm = sumRuns RS := ⟨_, rfl⟩
          rw [← hsm] at hd ⊢
          clear hb hsm
          go_wp2_with fail
          go_ret
          exact ⟨by simp, HB11.out.trans (HB.out.mono HB11.out.size)⟩
    · have t' : (F != 8) = true := by simp [t]
      clear t
      go_wp2_with fail
      go_ret
      exact ⟨by simp, HB9.out⟩
  · have t' : (E != 0) = true := by simp [t]
    have hl := (HS1.out.2 t).2
    obtain ⟨_, r0, r1, r2, r3, rf0, rf1, rf2, rf3⟩ := rgcells HA7.out
    rw [hl] at r3
    clear hl
    simp only [List.length_nil] at r3
    go_wp2_with fail
    go_ret
    exact ⟨by simp, HB7.out⟩

set_option maxHeartbeats 0 in
theorem compactRoom_closed : joinedFacts Tryz.prog 10 Tryz.f10 Rows.compactRoomSpec Rows.compactRoomRow = true := by
  unfold joinedFacts
  simp only [Bool.and_eq_true]
  and_intros
  · as_aux_lemma => kernel_rfl
  · exact Tryz.laidOut
  · exact Tryz.k_mapsRowed
  · as_aux_lemma => kernel_rfl
  · as_aux_lemma => kernel_rfl
  · as_aux_lemma => kernel_rfl
  · exact Tryz.k_stops
  · as_aux_lemma => kernel_rfl
  · exact Tryz.k_stopKnobs
  · as_aux_lemma => kernel_rfl
  · as_aux_lemma => kernel_rfl
  · as_aux_lemma => kernel_rfl
  · as_aux_lemma => kernel_rfl
  · as_aux_lemma => kernel_rfl
  · as_aux_lemma => kernel_rfl
  · as_aux_lemma => kernel_rfl
  · as_aux_lemma => kernel_rfl
  · as_aux_lemma => kernel_rfl
  · as_aux_lemma => kernel_rfl
  · as_aux_lemma => kernel_rfl
  · as_aux_lemma => kernel_rfl
  · as_aux_lemma => kernel_rfl
  · exact Tryz.k_plainKeys
  · as_aux_lemma => kernel_rfl
  · exact Tryz.k_stopsHeard
  · exact Tryz.k_mayEnter
  · exact Tryz.k_lifts
  · exact Tryz.k_make
  · as_aux_lemma => kernel_rfl
  · as_aux_lemma => kernel_rfl
  · as_aux_lemma => kernel_rfl
  · as_aux_lemma => kernel_rfl

set_option maxRecDepth 100000 in
theorem compactRoom_lifted (os : Os) (started : os.Started) (H : Type) (enc : TypeId × Value → H) :
    ReturnsInHanded {} Tryz.checked os 10 .any (Rows.compactRoomSpec.pre6 enc Tryz.prog Tryz.f10 Rows.compactRoomRow.domain false) (Rows.compactRoomSpec.post enc Tryz.prog Tryz.f10 false true false false) := by
  refine returnsInHanded_of_change_sized (C := Tryz.checked) Tryz.own started (by kernel_rfl) Tryz.func10
    (ChangeSpec.witness6 (enc := enc) (C := Tryz.checked) false ⟨#[], #[.agg #[.int .i64 0, .int .i64 0, .slice none 0 0, .slice none 0 0], .agg #[.string ⟨#[]⟩, .int .i64 0, .int .i64 0, .string ⟨#[]⟩, .slice none 0 0, .slice none 0 0, .slice none 0 0]], []⟩ 8 (by kernel_rfl) (by kernel_rfl) (by kernel_rfl) (by kernel_rfl)) ?_
  intro W base args ds gs before hval0 hW hcnd hsz0 _
  have hval : ∀ (j : Nat) t v, Tryz.f10.params[j]? = some t → args[j]? = some v → Value.okWide Tryz.prog W .any base t v := hval0
  have hsz : (DataW.weightsEach Tryz.prog (Tryz.f10.params.toList ++ Rows.compactRoomSpec.plain.varTypes Tryz.prog) (ds ++ gs)).all (· ≤ reachBytes) = true := hsz0
  have hW' := hW
  obtain ⟨p, q, hA0, hV, rfl, hfz, hnd⟩ := hW
  have hA : DataW.TrodAll enc Tryz.prog W 0 (fun _ => true) true Tryz.f10.params.toList args.toList ds p := hA0
  rw [Tryz.params10] at hA hval hsz
  obtain ⟨v0, vs0, d0, ds0, p0, q0, hargs, rfl, rfl, h0, r0⟩ := trodAll_cons hA
  obtain ⟨v1, vs1, d1, ds1, p1, q1, rfl, rfl, rfl, h1, r1⟩ := trodAll_cons r0
  obtain ⟨rfl, rfl, rfl⟩ := trodAll_nil r1
  obtain rfl : args = #[v0, v1] := by cases args; simp_all
  obtain ⟨rfl, rfl⟩ := trodVars_none hV
  have ft0 := fits_each hsz (j := 0) rfl rfl
  obtain ⟨rK, rA, rL, rC, rfl, okk0, okl0⟩ := open_Registry (hval 0 39 v0 rfl rfl) h0 ft0
  have ft1 := fits_each hsz (j := 1) rfl rfl
  obtain ⟨m, rfl, ok1⟩ := open_Module (hval 1 75 v1 rfl rfl) h1 ft1
  refine (CompactRoom_any rK rA rL rC m W okk0 okl0 ok1).mono fun e W' ⟨he, hb⟩ => ?_
  subst he
  exact ⟨_, rfl, law_post Tryz.laidOut hW' rfl (by decide +kernel) rfl Tryz.underlying4 rfl rfl rfl hb⟩

theorem compactRoom_holds : Rows.CompactRoomSaid :=
  OpenClaim.holds_of_wide 10 Tryz.f10 rfl rfl rfl rfl rfl rfl rfl ⟨rfl, rfl, rfl, rfl, rfl⟩ rfl rfl rfl rfl rfl (by kernel_rfl) Tryz.func10 compactRoom_closed
    (of_decide_eq_true (by kernel_rfl)) (by unfold Func.isWrapper; first | (rw [if_pos (by decide +kernel)]; kernel_rfl) | (rw [if_neg (by decide +kernel)]; exact ⟨rfl, rfl⟩))
    (fun os started H enc _ => compactRoom_lifted os started H enc)
#print axioms compactRoom_holds


end Go.Proofs.YtogckcjcebckgaaGreat
