import Derived.Test.YtdpacbdejfjkcaaRegBegun
import Derived.Test.YtdpacbdejfjkcaaOpen
/- RegionClear: what is placed there is in nobody's way, and no lesser place would do; free and used sectors are all. No condition. -/
namespace Go.Proofs.Ytdpacbdejfjkcaa
open Go.ChangeShapes Go.WideShapes Go.ChangeAt Go.RowKit Go.WideMaps Go.WideElems
open Go.ChangeMaps (setBlock shut_map_nil open_string shut_string keptBut_setBlock frozen?_setBlock heap_setBlock_same)

theorem wf_i64 {n : Int} (h : (Lit.int .i64 n).wf = true) : -9223372036854775808 ≤ n ∧ n < 9223372036854775808 := by
  have h2 := h
  simp only [Lit.wf, Bool.and_eq_true, decide_eq_true_eq] at h2
  have e1 : IntKind.i64.min = -9223372036854775808 := by decide
  have e2 : IntKind.i64.max = 9223372036854775807 := by decide
  rw [e1, e2] at h2
  omega
theorem sumRuns_next {l : List Run} {j : Nat} (h : j < l.length) : sumRuns (l.drop j) = l[j].many + sumRuns (l.drop (j + 1)) := by rw [List.drop_eq_getElem_cons h]; rfl
theorem sumRuns_nonneg : ∀ {l : List Run}, (∀ x ∈ l, 0 ≤ x.many) → 0 ≤ sumRuns l
  | [], _ => by simp [sumRuns]
  | x :: l, h => by
    have := sumRuns_nonneg (l := l) fun y hy => h y (List.mem_cons_of_mem _ hy)
    have := h x (by simp)
    simp only [sumRuns]; omega
theorem sumMods_next {l : List Plc} {j : Nat} (h : j < l.length) : sumMods (l.drop j) = manyOf l[j].m + sumMods (l.drop (j + 1)) := by rw [List.drop_eq_getElem_cons h]; rfl
theorem sumMods_nonneg : ∀ {l : List Plc}, 0 ≤ sumMods l
  | [] => by simp [sumMods]
  | x :: l => by
    have := sumMods_nonneg (l := l)
    have : 0 ≤ manyOf x.m := by unfold manyOf; omega
    simp only [sumMods]; omega
theorem runs_many {l : List Plc} (h : Row16 0 l) : ∀ x ∈ runsOf l, 0 ≤ x.many ∧ x.many ≤ 16 ∧ 0 ≤ x.first := fun x hx => by
  change x ∈ runsFrom 0 l at hx
  obtain ⟨j, hj, rfl⟩ := List.getElem_of_mem hx
  have := (rise_runs h).each (Int.le_refl 0) j hj
  exact ⟨by omega, by have := this.2.2.1; omega, this.2.1⟩
theorem clear_take {l : List Plc} {many p : Int} {j : Nat} (h : j < l.length) : clearAt (l.take (j + 1)) many p = (clearAt (l.take j) many p && (decide (endOf l[j] ≤ p) || decide (p + many ≤ l[j].first))) := by
  unfold clearAt
  rw [List.take_succ_eq_append_getElem h, List.all_append]
  simp

set_option maxRecDepth 100000 in
set_option maxHeartbeats 8000000 in
theorem RegionClear_any (A : Option Addr) (l : List Plc) (c : Nat) (many : Int) (w : World) (h : PlsOk w A l) (hmany : -9223372036854775808 ≤ many ∧ many < 9223372036854775808) :
    Calls Try.prog 4 #[.slice A l.length c, .int .i64 many] w fun e w' => e = .returned (.bool true) ∧ Below w.heap.size w w' := by
  have cG := Lib.hid (First_any A c l many w h)
  have cF := Lib.hid (fun W (hb : Below w.heap.size w W) => Free_any A c l W (h.below hb))
  have hfree : freeOf l = if regErr l ≠ 0 then [] else runsOf l := rfl
  by_cases tv : regErr l = 0
  · rw [if_neg (by omega)] at hfree
    rw [hfree, tv] at cF
    obtain ⟨h8, hall, h16⟩ := reg_row tv
    have HMOD := Lib.hid (fun x hx => (hall x hx).1)
    have HALL := Lib.hid (show ∀ x ∈ l, 0 ≤ x.first ∧ x.first ≤ 16 ∧ 1 ≤ manyOf x.m ∧ manyOf x.m ≤ 4 from fun x hx => by
      obtain ⟨h1, h2⟩ := hall x hx
      have h3 := many_ok h1
      simp only [regQ, Bool.and_eq_true, decide_eq_true_eq] at h2
      omega)
    have hrun := runs_many h16
    have hsum := sum_all h16
    have hR9 : (runsOf l).length ≤ 9 := by have := runsFrom_length l 0; unfold runsOf; omega
    have HCL := Lib.hid (fun p => firstOf_clear (p := p) (many := many) tv)
    have HNO := Lib.hid (firstOf_none (many := many) tv)
    obtain ⟨G, hG⟩ : ∃ G, G = firstOf l many := ⟨_, rfl⟩
    rw [← hG] at cG HNO
    simp only [← hG] at HCL
    obtain ⟨G1, G2⟩ := G
    obtain ⟨R, hR⟩ : ∃ R, R = runsOf l := ⟨_, rfl⟩
    change sumRuns (runsOf l) + _ = _ at hsum
    rw [← hR] at cF hrun hsum hR9
    have HRUN := Lib.hid hrun
    have HSUM := Lib.hid hsum
    have HP := Lib.hid h
    simp only at cG HCL HNO
    clear h hall h16 hfree hrun hsum tv hG hR
    go_enter Try.func4, Try.ntmps4
    go_wp2_with (first | (go_at_call 13; refine (cG.out).mono ?_; rintro e w1 ⟨rfl, hb1⟩; have s1 := hb1.size) | (go_at_call 19; refine (regionBegun_any _).mono ?_; rintro e w2 ⟨rfl, hb2⟩; have s2 := hb2.size; have B2 := Lib.hid (hb1.trans (hb2.mono s1))) | (go_at_call 12; refine (cF.out _ B2.out).mono ?_; rintro e w3 ⟨⟨A3, c3, rfl, hr3⟩, hb3⟩; have B3 := Lib.hid (B2.out.trans (hb3.mono (by omega))); have R3 := Lib.hid hr3; clear hr3))
    go_loopw [9, 10] (fun v i wr => ∃ (j : Nat) (a : Int), j ≤ R.length ∧ i = .int .i64 j ∧ v = .int .i64 a ∧ 0 ≤ a ∧ a + sumRuns (R.drop j) = sumRuns R ∧ Below w3.heap.size w3 wr) (fun _ i _ => R.length - (intOf i).toNat)
    case atStart => exact ⟨0, 0, by omega, rfl, rfl, by omega, by simp, Below.refl _ _⟩
    case round =>
      obtain ⟨j, a, hj, rfl, rfl, ha, hE, hb⟩ := hrel
      have HB := Lib.hid hb
      by_cases hlt : j < R.length
      · have hlt' : (j : Int) < R.length := by omega
        obtain ⟨ad, rfl, hab, k0, k1⟩ := run_at R3.out hb j hlt
        have hx := HRUN.out R[j] (List.getElem_mem _)
        have hn := sumRuns_next hlt
        have hn2 := sumRuns_nonneg (l := R.drop (j + 1)) fun x hx => (HRUN.out x (List.mem_of_mem_drop hx)).1
        have hs := HSUM.out
        have hs2 := sumMods_nonneg (l := l)
        obtain ⟨f, hf⟩ : ∃ f, f = R[j].first := ⟨_, rfl⟩
        obtain ⟨m, hm⟩ : ∃ m, m = R[j].many := ⟨_, rfl⟩
        rw [← hf] at k0
        rw [← hm] at k1 hn hx
        have q1 : IntKind.i64.wrap (a + m) = a + m := IntWalk.i64_in _ (by omega)
        have HE := Lib.hid (show a + m + sumRuns (R.drop (j + 1)) = sumRuns R by omega)
        have ha2 : 0 ≤ a + m := by omega
        clear hf hm hb hn hn2 hs hs2 hE hx
        go_wp2_with fail
        go_roundw
        case rel => exact ⟨j + 1, a + m, by omega, by go_num, rfl, ha2, HE.out, HB.out⟩
        case measure => (simp [intOf]; try omega)
      · have hs := HSUM.out
        rw [List.drop_eq_nil_of_le (by omega)] at hE
        simp only [sumRuns] at hE
        have HA := Lib.hid (show a + sumMods l = 16 by omega)
        have B4 := Lib.hid (B3.out.trans (HB.out.mono B3.out.size))
        clear hE hs hb
        go_wp2_with fail
        go_loopw [9, 11] (fun v i wr => ∃ (j : Nat) (a : Int), j ≤ l.length ∧ i = .int .i64 j ∧ v = .int .i64 a ∧ 0 ≤ a ∧ a + sumMods (l.drop j) = 16 ∧ Below w.heap.size w wr) (fun _ i _ => l.length - (intOf i).toNat)
        case atStart => exact ⟨0, a, by omega, rfl, rfl, ha, HA.out, B4.out⟩
        case round =>
          obtain ⟨j, a, hj, rfl, rfl, ha, hE, hb⟩ := hrel
          have HB := Lib.hid hb
          by_cases hlt : j < l.length
          · have hlt' : (j : Int) < l.length := by omega
            obtain ⟨ad, rfl, hab, k0, k1, k2, k3, k4, k5, k6, k7⟩ := plc_at HP.out.row hb j hlt
            have hn := sumMods_next hlt
            have hn2 := sumMods_nonneg (l := l.drop (j + 1))
            have hx := HALL.out l[j] (List.getElem_mem _)
            have hmo := HP.out.each l[j] (List.getElem_mem _)
            have cS := Lib.hid (fun W (hb : Below w.heap.size w W) => Size_any (l[j]'hlt).m W (hmo.below hb))
            have he := HMOD.out l[j] (List.getElem_mem _)
            rw [he] at cS
            simp only [ne_eq, not_true_eq_false, if_false] at cS
            obtain ⟨y, hy⟩ : ∃ y, y = l[j]'hlt := ⟨_, rfl⟩
            rw [← hy] at k0 k1 k2 k3 k4 k5 k6 k7 hn hx cS
            obtain ⟨M, hM⟩ : ∃ M, M = manyOf y.m := ⟨_, rfl⟩
            rw [← hM] at hn hx cS
            have q1 : IntKind.i64.wrap (a + M) = a + M := IntWalk.i64_in _ (by omega)
            have HE := Lib.hid (show a + M + sumMods (l.drop (j + 1)) = 16 by omega)
            have ha2 : 0 ≤ a + M := by omega
            clear hb hn hn2 hE hx he hy hM hmo
            go_wp2_with (go_at_call 11; refine (cS.out _ HB.out).mono ?_; rintro e w5 ⟨rfl, hb5⟩)
            go_roundw
            case rel => exact ⟨j + 1, a + M, by omega, by go_num, rfl, ha2, HE.out, HB.out.trans (hb5.mono HB.out.size)⟩
            case measure => (simp [intOf]; try omega)
          · rw [List.drop_eq_nil_of_le (by omega)] at hE
            simp only [sumMods] at hE
            obtain rfl : a = 16 := by omega
            clear hE
            go_wp2_with fail
            go_loopw [14] (fun i wr => ∃ (p : Nat), p ≤ 17 ∧ i = .int .i64 p ∧ (∀ q : Int, 0 ≤ q → q < p → clearAt l many q = false) ∧ Below w.heap.size w wr) (fun i _ => 17 - (intOf i).toNat)
            case atStart => exact ⟨0, by omega, rfl, fun q h1 h2 => by omega, HB.out⟩
            case round =>
              obtain ⟨p, hp, rfl, hno, hb⟩ := hrel
              have HB := Lib.hid hb
              have HN := Lib.hid hno
              clear hno hb
              by_cases t1 : 1 ≤ many
              · have q0 : IntKind.i64.wrap (16 - many) = 16 - many := IntWalk.i64_in _ (by omega)
                by_cases t2 : (p : Int) ≤ 16 - many
                · have hp16 : p ≤ 15 := by omega
                  have q1 : IntKind.i64.wrap ((p : Int) + many) = p + many := IntWalk.i64_in _ (by omega)
                  have HPM := Lib.hid (show (p : Int) + 1 ≤ 17 by omega)
                  go_wp2_with fail
                  go_loopw [15, 16] (fun b i wr => ∃ (j : Nat), j ≤ l.length ∧ i = .int .i64 j ∧ b = .bool (clearAt (l.take j) many p) ∧ Below w.heap.size w wr) (fun _ i _ => l.length - (intOf i).toNat)
                  case atStart => exact ⟨0, by omega, rfl, by simp [clearAt], HB.out⟩
                  case round =>
                    obtain ⟨j, hj, rfl, rfl, hb⟩ := hrel
                    have HB := Lib.hid hb
                    by_cases hlt : j < l.length
                    · have hlt' : (j : Int) < l.length := by omega
                      obtain ⟨ad, rfl, hab, k0, k1, k2, k3, k4, k5, k6, k7⟩ := plc_at HP.out.row hb j hlt
                      have hx := HALL.out l[j] (List.getElem_mem _)
                      have hmo := HP.out.each l[j] (List.getElem_mem _)
                      have cS := Lib.hid (fun W (hb : Below w.heap.size w W) => Size_any (l[j]'hlt).m W (hmo.below hb))
                      have HROW := Lib.hid (fun (W : World) (hbW : Below w.heap.size w W) => plc_at HP.out.row hbW j hlt)
                      have he := HMOD.out l[j] (List.getElem_mem _)
                      rw [he] at cS
                      simp only [ne_eq, not_true_eq_false, if_false] at cS
                      have hct := clear_take (many := many) (p := p) hlt
                      obtain ⟨y, hy⟩ : ∃ y, y = l[j]'hlt := ⟨_, rfl⟩
                      rw [← hy] at k0 k1 k2 k3 k4 k5 k6 k7 hx cS hct HROW
                      have hend : endOf y = y.first + manyOf y.m := rfl
                      rw [hend] at hct
                      obtain ⟨M, hM⟩ : ∃ M, M = manyOf y.m := ⟨_, rfl⟩
                      rw [← hM] at hx cS hct
                      have q2 : IntKind.i64.wrap (y.first + M) = y.first + M := IntWalk.i64_in _ (by omega)
                      obtain ⟨b, hbb⟩ : ∃ b, b = clearAt (l.take j) many p := ⟨_, rfl⟩
                      rw [← hbb] at hct ⊢
                      have HCT := Lib.hid hct
                      clear hb hx he hy hM hmo hend hct hbb
                      cases b
                      · go_wp2_with (go_at_call 11; refine (cS.out _ HB.out).mono ?_; rintro e w5 ⟨rfl, hb5⟩; have B5 := Lib.hid (HB.out.trans (hb5.mono HB.out.size)))
                        go_roundw
                        case rel => exact ⟨j + 1, by omega, by go_num, by rw [HCT.out]; rfl, B5.out⟩
                        case measure => (simp [intOf]; try omega)
                      · by_cases t3 : y.first + M ≤ p
                        · go_wp2_with (go_at_call 11; refine (cS.out _ HB.out).mono ?_; rintro e w5 ⟨rfl, hb5⟩; have B5 := Lib.hid (HB.out.trans (hb5.mono HB.out.size)); obtain ⟨ad', e', _, g0, g1, g2, g3, g4, g5, g6, g7⟩ := HROW.out _ B5.out; obtain rfl := Option.some.inj e')
                          go_roundw
                          case rel => exact ⟨j + 1, by omega, by go_num, by rw [HCT.out]; simp [t3], B5.out⟩
                          case measure => (simp [intOf]; try omega)
                        · have t3' : decide (y.first + M ≤ p) = false := by simp; omega
                          by_cases t4 : (p : Int) + many ≤ y.first
                          · go_wp2_with (go_at_call 11; refine (cS.out _ HB.out).mono ?_; rintro e w5 ⟨rfl, hb5⟩; have B5 := Lib.hid (HB.out.trans (hb5.mono HB.out.size)); obtain ⟨ad', e', _, g0, g1, g2, g3, g4, g5, g6, g7⟩ := HROW.out _ B5.out; obtain rfl := Option.some.inj e')
                            go_roundw
                            case rel => exact ⟨j + 1, by omega, by go_num, by rw [HCT.out]; simp [t4], B5.out⟩
                            case measure => (simp [intOf]; try omega)
                          · have t4' : decide ((p : Int) + many ≤ y.first) = false := by simp; omega
                            go_wp2_with (go_at_call 11; refine (cS.out _ HB.out).mono ?_; rintro e w5 ⟨rfl, hb5⟩; have B5 := Lib.hid (HB.out.trans (hb5.mono HB.out.size)); obtain ⟨ad', e', _, g0, g1, g2, g3, g4, g5, g6, g7⟩ := HROW.out _ B5.out; obtain rfl := Option.some.inj e')
                            go_roundw
                            case rel => exact ⟨j + 1, by omega, by go_num, by rw [HCT.out]; simp [t3, t4], B5.out⟩
                            case measure => (simp [intOf]; try omega)
                    · have e0 : l.take j = l := List.take_of_length_le (by omega)
                      rw [e0]
                      obtain ⟨b, hbb⟩ : ∃ b, b = clearAt l many p := ⟨_, rfl⟩
                      rw [← hbb]
                      cases b
                      · have HBB := Lib.hid hbb
                        clear hbb e0 hb
                        go_wp2_with fail
                        go_roundw
                        case rel => exact ⟨p + 1, by omega, by go_num, fun q h1 h2 => by
                          by_cases hq : q < p
                          · exact HN.out q h1 hq
                          · rw [show q = p by omega]; exact HBB.out.symm, HB.out⟩
                        case measure => (simp [intOf]; try omega)
                      · have hfin := HCL.out p t1 (by omega) t2 hbb.symm HN.out
                        simp only [Prod.mk.injEq] at hfin
                        obtain ⟨rfl, rfl⟩ := hfin
                        clear hbb e0 hb
                        go_wp2_with fail
                        go_ret
                        exact ⟨by simp, HB.out⟩
                · have t2' : decide ((p : Int) ≤ 16 - many) = false := by simp; omega
                  have HG := Lib.hid (HNO.out fun _ q h1 h2 => HN.out q h1 (by omega))
                  rcases HG.out with rfl | rfl
                  · clear HG
                    go_wp2_with fail
                    go_ret
                    exact ⟨by simp, HB.out⟩
                  · clear HG
                    go_wp2_with fail
                    go_ret
                    exact ⟨by simp, HB.out⟩
              · have t1' : decide (1 ≤ many) = false := by simp; omega
                have HG := Lib.hid (HNO.out fun h => absurd h t1)
                rcases HG.out with rfl | rfl
                · clear HG
                  go_wp2_with fail
                  go_ret
                  exact ⟨by simp, HB.out⟩
                · clear HG
                  go_wp2_with fail
                  go_ret
                  exact ⟨by simp, HB.out⟩
  · rw [if_pos tv] at hfree
    rw [hfree] at cF
    have hG : firstOf l many = (0, regErr l) := by unfold firstOf; rw [if_pos tv]
    rw [hG] at cG
    obtain ⟨V, hV⟩ : ∃ V, V = regErr l := ⟨_, rfl⟩
    rw [← hV] at cF cG tv
    have tv' : (V != 0) = true := by simp [tv]
    clear h hfree hG hV tv
    go_enter Try.func4, Try.ntmps4
    go_wp2_with (first | (go_at_call 13; refine (cG.out).mono ?_; rintro e w1 ⟨rfl, hb1⟩; have s1 := hb1.size) | (go_at_call 19; refine (regionBegun_any _).mono ?_; rintro e w2 ⟨rfl, hb2⟩; have s2 := hb2.size; have B2 := Lib.hid (hb1.trans (hb2.mono s1))) | (go_at_call 12; refine (cF.out _ B2.out).mono ?_; rintro e w3 ⟨⟨A3, c3, rfl, hr3⟩, hb3⟩; have B3 := Lib.hid (B2.out.trans (hb3.mono (by omega)))))
    go_ret
    exact ⟨by simp, B3.out⟩

set_option maxRecDepth 100000 in
theorem regionClear_lifted (os : Os) (started : os.Started) (H : Type) (enc : TypeId × Value → H) :
    ReturnsInHanded {} Try.checked os 4 .any (Rows.regionClearSpec.pre6 enc Try.prog Try.f4 Rows.regionClearRow.domain false) (Rows.regionClearSpec.post enc Try.prog Try.f4 false true false false) := by
  refine returnsInHanded_of_change_sized (C := Try.checked) Try.own started (by kernel_rfl) Try.func4
    (ChangeSpec.witness6 (enc := enc) (C := Try.checked) false ⟨#[], #[.slice none 0 0, .int .i64 0], []⟩ 8 (by kernel_rfl) (by kernel_rfl) (by kernel_rfl) (by kernel_rfl)) ?_
  intro W base args ds gs before hval0 hW hcnd hsz0 _
  have hval : ∀ (j : Nat) t v, Try.f4.params[j]? = some t → args[j]? = some v → Value.okWide Try.prog W .any base t v := hval0
  have hsz : (DataW.weightsEach Try.prog (Try.f4.params.toList ++ Rows.regionClearSpec.plain.varTypes Try.prog) (ds ++ gs)).all (· ≤ reachBytes) = true := hsz0
  have hW' := hW
  obtain ⟨p, q, hA0, hV, rfl, hfz, hnd⟩ := hW
  have hA : DataW.TrodAll enc Try.prog W 0 (fun _ => true) true Try.f4.params.toList args.toList ds p := hA0
  rw [Try.params4] at hA hval hsz
  obtain ⟨v0, vs0, d0, ds0, p0, q0, hargs, rfl, rfl, h0, r0⟩ := trodAll_cons hA
  obtain ⟨v1, vs1, d1, ds1, p1, q1, rfl, rfl, rfl, h1, r1⟩ := trodAll_cons r0
  obtain ⟨rfl, rfl, rfl⟩ := trodAll_nil r1
  obtain rfl : args = #[v0, v1] := by cases args; simp_all
  obtain ⟨rfl, rfl⟩ := trodVars_none hV
  have ft0 := fits_each hsz (j := 0) rfl rfl
  obtain ⟨lA, l, lc, rfl, ok0⟩ := open_Placeds (hval 0 27 v0 rfl rfl) h0 ft0
  obtain ⟨many, rfl, rfl, rfl, w1⟩ := open_int Try.underlying3 (hval 1 3 v1 rfl rfl) h1
  refine (RegionClear_any lA l lc many W ok0 (wf_i64 w1)).mono fun e W' ⟨he, hb⟩ => ?_
  subst he
  exact ⟨_, rfl, law_post Try.laidOut hW' rfl (by decide +kernel) rfl Try.underlying4 rfl rfl rfl hb⟩

theorem regionClear_holds : Rows.RegionClearSaid :=
  OpenClaim.holds_of_wide 4 Try.f4 rfl rfl rfl rfl rfl rfl rfl ⟨rfl, rfl, rfl, rfl, rfl⟩ rfl rfl rfl rfl rfl (by kernel_rfl) Try.func4 (by kernel_rfl)
    (of_decide_eq_true (by kernel_rfl)) (by unfold Func.isWrapper; first | (rw [if_pos (by decide +kernel)]; kernel_rfl) | (rw [if_neg (by decide +kernel)]; exact ⟨rfl, rfl⟩))
    (fun os started H enc _ => regionClear_lifted os started H enc)
#print axioms regionClear_holds

end Go.Proofs.Ytdpacbdejfjkcaa
