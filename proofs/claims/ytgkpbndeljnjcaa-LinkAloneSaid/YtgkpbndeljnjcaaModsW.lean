import Derived.Test.YtgkpbndeljnjcaaRCheckW
import Derived.Test.YtgkpbndeljnjcaaResPure
import Derived.Shelf.GgSortFunc.Insertion
/- Rows of placed modules (chapters D and F): region.Many, resolve.Modules, resolve.Kernel, resolve.Placed, and the document's SizeOf, CheckModules, CheckKernel. -/
namespace Go.Proofs.Ytgkpbndeljnjcaa
open Go.RowKit

set_option maxHeartbeats 1000000 in
set_option maxRecDepth 100000 in
theorem Many_any (m : Mod) (w : World) (h : m.text.size ≤ big) :
    Calls Try.prog 66 #[m.v] w fun e w' => e = .returned (.int .i64 (manyOf m)) ∧ Below w.heap.size w w' := by
  unfold big at h
  have q1 : wrap64 ((m.text.size : Int) + 64) = m.text.size + 64 := IntWalk.wrap64_in _ (by omega)
  have q2 : wrap64 ((m.text.size : Int) + 64 - 1) = m.text.size + 64 - 1 := IntWalk.wrap64_in _ (by omega)
  have q3 : ((m.text.size : Int) + 64 - 1).tdiv 64 = manyOf m := by unfold manyOf; rw [Int.tdiv_eq_ediv_of_nonneg (by omega)]; omega
  have q4 : wrap64 (manyOf m) = manyOf m := by unfold manyOf; exact IntWalk.wrap64_in _ (by omega)
  go_enter Try.func66, Try.ntmps66
  go_wp2_with fail
  go_ret
  exact ⟨by simp_all, (Below.refl _ _).alloc (Nat.le_refl _) _⟩

set_option maxHeartbeats 1000000 in
set_option maxRecDepth 100000 in
theorem SizeOf_any (m : Mod) (w : World) (h : m.text.size ≤ big) :
    Calls Try.prog 57 #[m.v] w fun e w' => e = .returned (.int .i64 (manyOf m)) ∧ Below w.heap.size w w' := by
  unfold big at h
  obtain ⟨d, q1, q2⟩ : ∃ d : Int, (m.text.size : Int).tdiv 64 = d ∧ d = m.text.size / 64 := ⟨_, rfl, by rw [Int.tdiv_eq_ediv_of_nonneg (by omega)]⟩
  obtain ⟨r, q3, q4⟩ : ∃ r : Int, (m.text.size : Int).tmod 64 = r ∧ r = m.text.size % 64 := ⟨_, rfl, by rw [Int.tmod_eq_emod_of_nonneg (by omega)]⟩
  have q6 : wrap64 d = d := IntWalk.wrap64_in _ (by omega)
  have q5 : wrap64 (d + 1) = d + 1 := IntWalk.wrap64_in _ (by omega)
  have HM := Lib.hid (show manyOf m = if 0 < r then d + 1 else d by unfold manyOf; split <;> omega)
  clear q2 q4
  by_cases hr : 0 < r
  · have HM := Lib.hid (HM.out.trans (if_pos hr))
    go_enter Try.func57, Try.ntmps57
    go_wp2_with fail
    go_ret
    exact ⟨ret_int (by rw [HM.out]; first | rfl | exact q5), (Below.refl _ _).alloc (Nat.le_refl _) _⟩
  · have HM := Lib.hid (HM.out.trans (if_neg hr))
    have hr' : decide (0 < r) = false := by simp; omega
    clear hr
    go_enter Try.func57, Try.ntmps57
    go_wp2_with fail
    go_ret
    exact ⟨ret_int (by first | exact HM.out.symm | exact q6.trans HM.out.symm), (Below.refl _ _).alloc (Nat.le_refl _) _⟩

set_option maxHeartbeats 2000000 in
set_option maxRecDepth 100000 in
/-- resolve.Modules, for whatever function value says yes or no to one that is right -/
theorem Modules_any (A : Option Addr) (c : Nat) (l : List Plc) (g : Nat) (q : Plc → Bool) (w : World) (eg : ∀ args w, (callFunc g args).run Try.prog w = .ok (.enter g args) w) (h : PlsOk w A l)
    (hq : ∀ x ∈ l, modErr x.m = 0 → ∀ W, Calls Try.prog g #[x.v] W fun e w' => e = .returned (.bool (q x)) ∧ Below W.heap.size W w') :
    Calls Try.prog 47 #[.slice A l.length c, .func (.func g) #[] #[]] w fun e w' => e = .returned (.int .i64 (modsAll q l)) ∧ Below w.heap.size w w' := by
  have hl := h.len
  unfold big at hl
  have HP := Lib.hid h
  have HQ := Lib.hid hq
  clear h hq
  by_cases h8 : 8 < l.length
  · have e1 := Lib.hid (show 2 = modsAll q l by unfold modsAll; rw [if_pos h8])
    have h8' : (8 : Int) < l.length := by omega
    go_enter Try.func47, Try.ntmps47
    go_wp2_with fail
    go_ret
    exact ⟨ret_int e1.out, Below.refl _ _⟩
  have h8' : decide ((8 : Int) < l.length) = false := by simp; omega
  have e0 := Lib.hid (show modsErr q l = modsAll q l by unfold modsAll; rw [if_neg h8])
  go_enter Try.func47, Try.ntmps47
  go_wp2_with fail
  go_loopw [13] (fun i wr => ∃ j : Nat, j ≤ l.length ∧ i = .int .i64 j ∧ modsFrom q l j = modsAll q l ∧ Below w.heap.size w wr) (fun i _ => l.length - (intOf i).toNat)
  case atStart => exact ⟨0, by omega, rfl, e0.out, Below.refl _ _⟩
  case round =>
    obtain ⟨j, hj, rfl, hE, hb⟩ := hrel
    have HE := Lib.hid hE
    have HB := Lib.hid hb
    clear hE
    by_cases hlt : j < l.length
    · have hlt' : (j : Int) < l.length := by omega
      obtain ⟨ad, rfl, hab, h0, h1, h2, h3, h4, h5, h6, h7⟩ := plc_at HP.out.row hb j hlt
      have hwz := hb.size
      have hmo := HP.out.each l[j] (List.getElem_mem _)
      have c1 := Lib.hid (fun W (hbW : Below w.heap.size w W) => Check_any (l[j]'hlt).m W (hmo.below hbW))
      obtain ⟨er, her⟩ : ∃ er, er = modErr (l[j]'hlt).m := ⟨_, rfl⟩
      rw [← her] at c1
      have HER := Lib.hid her
      have HQJ := Lib.hid (fun h0 => HQ.out (l[j]'hlt) (List.getElem_mem _) h0)
      have HX := Lib.hid ((HB.out).trans ((Below.refl w.heap.size wr).alloc (by omega) (.cells #[.string l[j].m.name, iv l[j].m.major, iv l[j].m.minor, .string l[j].m.text, .slice l[j].m.eA l[j].m.ex.length l[j].m.eC, .slice l[j].m.iA l[j].m.im.length l[j].m.iC, .slice l[j].m.pA l[j].m.pa.length l[j].m.pC, iv l[j].first] 44)))
      clear hb her hmo
      by_cases h5e : er = 0
      · obtain rfl := h5e
        have c2 := Lib.hid (HQJ.out HER.out.symm)
        obtain ⟨bq, hbq⟩ : ∃ bq, bq = q (l[j]'hlt) := ⟨_, rfl⟩
        rw [← hbq] at c2
        have HBQ := Lib.hid hbq
        clear hbq
        cases bq
        · have e1 := Lib.hid ((modsFrom_no hlt HER.out.symm HBQ.out.symm).symm.trans HE.out)
          go_wp2_with (first | (go_at_call 73; refine (c1.out _ HX.out).mono ?_; rintro e w2 ⟨rfl, hb2⟩; obtain ⟨hc2, hf2⟩ := bcell hb2; have hz2 : wr.heap.size < w2.heap.size := by have := hb2.size; simp at this; omega) | (go_at_fn g; refine (c2.out _).mono ?_; rintro e w3 ⟨rfl, hb3⟩))
          go_ret
          exact ⟨ret_int e1.out, (HX.out.trans (hb2.mono (by simp; omega))).trans (hb3.mono (by omega))⟩
        · have e1 := Lib.hid ((modsFrom_next hlt HER.out.symm HBQ.out.symm).trans HE.out)
          go_wp2_with (first | (go_at_call 73; refine (c1.out _ HX.out).mono ?_; rintro e w2 ⟨rfl, hb2⟩; obtain ⟨hc2, hf2⟩ := bcell hb2; have hz2 : wr.heap.size < w2.heap.size := by have := hb2.size; simp at this; omega) | (go_at_fn g; refine (c2.out _).mono ?_; rintro e w3 ⟨rfl, hb3⟩))
          go_roundw
          case rel => exact ⟨j + 1, by omega, by go_num, e1.out, (HX.out.trans (hb2.mono (by simp; omega))).trans (hb3.mono (by omega))⟩
          case measure => (simp [intOf]; try omega)
      · have e1 := Lib.hid ((modsFrom_err (q := q) hlt (by rw [← HER.out]; exact h5e)).symm.trans HE.out)
        have h5' : (er != 0) = true := by simp [h5e]
        clear h5e
        go_wp2_with (go_at_call 73; refine (c1.out _ HX.out).mono ?_; rintro e w2 ⟨rfl, hb2⟩)
        go_ret
        exact ⟨ret_int (HER.out.trans e1.out), HX.out.trans (hb2.mono (by simp; omega))⟩
    · have e1 := Lib.hid ((modsFrom_end (q := q) hlt).symm.trans HE.out)
      go_wp2_with fail
      go_ret
      exact ⟨ret_int e1.out, HB.out⟩

set_option maxHeartbeats 2000000 in
set_option maxRecDepth 100000 in
theorem CheckModules_any (A : Option Addr) (c : Nat) (l : List Plc) (first whole : Bool) (w : World) (h : PlsOk w A l) :
    Calls Try.prog 30 #[.slice A l.length c, .bool first, .bool whole] w fun e w' => e = .returned (.int .i64 (modsAll (refQ first whole) l)) ∧ Below w.heap.size w w' := by
  have hl := h.len
  unfold big at hl
  have HP := Lib.hid h
  clear h
  obtain ⟨q, hq⟩ : ∃ q, q = refQ first whole := ⟨_, rfl⟩
  rw [← hq]
  have HQ := Lib.hid hq
  clear hq
  by_cases h8 : 8 < l.length
  · have e1 := Lib.hid (show 2 = modsAll q l by unfold modsAll; rw [if_pos h8])
    have h8' : (8 : Int) < l.length := by omega
    go_enter Try.func30, Try.ntmps30
    go_wp2_with fail
    go_ret
    exact ⟨ret_int e1.out, Below.refl _ _⟩
  have h8' : decide ((8 : Int) < l.length) = false := by simp; omega
  have e0 := Lib.hid (show modsErr q l = modsAll q l by unfold modsAll; rw [if_neg h8])
  go_enter Try.func30, Try.ntmps30
  go_wp2_with fail
  go_loopw [7] (fun i wr => ∃ j : Nat, j ≤ l.length ∧ i = .int .i64 j ∧ modsFrom q l j = modsAll q l ∧ Below w.heap.size w wr) (fun i _ => l.length - (intOf i).toNat)
  case atStart => exact ⟨0, by omega, rfl, e0.out, Below.refl _ _⟩
  case round =>
    obtain ⟨j, hj, rfl, hE, hb⟩ := hrel
    have HE := Lib.hid hE
    have HB := Lib.hid hb
    clear hE
    by_cases hlt : j < l.length
    · have hlt' : (j : Int) < l.length := by omega
      obtain ⟨ad, rfl, hab, h0, h1, h2, h3, h4, h5, h6, h7⟩ := plc_at HP.out.row hb j hlt
      have hwz := hb.size
      have hmo := HP.out.each l[j] (List.getElem_mem _)
      have c1 := Lib.hid (fun W (hbW : Below w.heap.size w W) => CheckModule_any (l[j]'hlt).m W (hmo.below hbW))
      have c2 := Lib.hid (fun W => SizeOf_any (l[j]'hlt).m W hmo.text)
      obtain ⟨er, her⟩ : ∃ er, er = modErr (l[j]'hlt).m := ⟨_, rfl⟩
      rw [← her] at c1
      have HER := Lib.hid her
      -- all cells of the row, behind whatever comes
      have HK := Lib.hid (fun W (hbW : Below w.heap.size w W) => plc_at HP.out.row hbW j hlt)
      clear hb her hmo
      by_cases h5e : er = 0
      · obtain rfl := h5e
        have hme := modErr_facts HER.out.symm
        have hmr := Lib.hid (show 0 ≤ manyOf l[j].m ∧ manyOf l[j].m ≤ 4 by unfold manyOf; omega)
        clear hme
        obtain ⟨bq, hbq⟩ : ∃ bq, bq = q (l[j]'hlt) := ⟨_, rfl⟩
        have HBQ := Lib.hid hbq
        have hd : bq = (!first || (decide (0 ≤ l[j].first) && decide (l[j].first ≤ 16 - (if whole then manyOf l[j].m else 1)))) := by rw [hbq, HQ.out]; rfl
        clear hbq
        obtain ⟨mz, hmz⟩ : ∃ mz, mz = manyOf (l[j]'hlt).m := ⟨_, rfl⟩
        rw [← hmz] at c2 hmr hd
        have q0 : wrap64 (16 - mz) = 16 - mz := by have := hmr.out; exact IntWalk.wrap64_in _ (by omega)
        have c3 := Lib.hid (fun W => between_any l[j].first 0 (16 - (if whole then mz else 1)) W)
        have HD := Lib.hid hd
        clear hmz hd
        have e1 := Lib.hid (fun (hf : bq = false) => (modsFrom_no hlt HER.out.symm (HBQ.out.symm.trans hf)).symm.trans HE.out)
        have e2 := Lib.hid (fun (hf : bq = true) => (modsFrom_next hlt HER.out.symm (HBQ.out.symm.trans hf)).trans HE.out)
        cases first
        · have e3 := Lib.hid (e2.out (by rw [HD.out]; rfl))
          cases whole
          · go_wp2_with (go_at_call 56; refine (c1.out _ HB.out).mono ?_; rintro e w2 ⟨rfl, hb2⟩)
            go_roundw
            case rel => exact ⟨j + 1, by omega, by go_num, e3.out, HB.out.trans (hb2.mono (by omega))⟩
            case measure => (simp [intOf]; try omega)
          · go_wp2_with (first | (go_at_call 56; refine (c1.out _ HB.out).mono ?_; rintro e w2 ⟨rfl, hb2⟩; obtain ⟨_, ead, _, k0, k1, k2, k3, k4, k5, k6, k7⟩ := HK.out _ (HB.out.trans (hb2.mono (by omega))); obtain rfl := Option.some.inj ead; have hz2 := hb2.size) | (go_at_call 57; refine (c2.out _).mono ?_; rintro e w3 ⟨rfl, hb3⟩))
            go_roundw
            case rel => exact ⟨j + 1, by omega, by go_num, e3.out, (HB.out.trans (hb2.mono (by omega))).trans (hb3.mono (by omega))⟩
            case measure => (simp [intOf]; try omega)
        · cases whole
          · rw [if_neg (by simp)] at c3
            have hd : bq = (decide (0 ≤ l[j].first) && decide (l[j].first ≤ 16 - 1)) := by rw [HD.out]; simp
            rw [← hd] at c3
            clear hd
            cases bq
            · have e3 := Lib.hid (e1.out rfl)
              go_wp2_with (first | (go_at_call 56; refine (c1.out _ HB.out).mono ?_; rintro e w2 ⟨rfl, hb2⟩; obtain ⟨_, ead, _, k0, k1, k2, k3, k4, k5, k6, k7⟩ := HK.out _ (HB.out.trans (hb2.mono (by omega))); obtain rfl := Option.some.inj ead; have hz2 := hb2.size) | (go_at_call 58; refine (c3.out _).mono ?_; rintro e w' ⟨rfl, rfl⟩))
              go_ret
              exact ⟨ret_int e3.out, HB.out.trans (hb2.mono (by omega))⟩
            · have e3 := Lib.hid (e2.out rfl)
              go_wp2_with (first | (go_at_call 56; refine (c1.out _ HB.out).mono ?_; rintro e w2 ⟨rfl, hb2⟩; obtain ⟨_, ead, _, k0, k1, k2, k3, k4, k5, k6, k7⟩ := HK.out _ (HB.out.trans (hb2.mono (by omega))); obtain rfl := Option.some.inj ead; have hz2 := hb2.size) | (go_at_call 58; refine (c3.out _).mono ?_; rintro e w' ⟨rfl, rfl⟩))
              go_roundw
              case rel => exact ⟨j + 1, by omega, by go_num, e3.out, HB.out.trans (hb2.mono (by omega))⟩
              case measure => (simp [intOf]; try omega)
          · rw [if_pos rfl] at c3
            have hd : bq = (decide (0 ≤ l[j].first) && decide (l[j].first ≤ 16 - mz)) := by rw [HD.out]; simp
            rw [← hd] at c3
            clear hd
            cases bq
            · have e3 := Lib.hid (e1.out rfl)
              go_wp2_with (first | (go_at_call 56; refine (c1.out _ HB.out).mono ?_; rintro e w2 ⟨rfl, hb2⟩; obtain ⟨_, ead, _, k0, k1, k2, k3, k4, k5, k6, k7⟩ := HK.out _ (HB.out.trans (hb2.mono (by omega))); obtain rfl := Option.some.inj ead; have hz2 := hb2.size) | (go_at_call 57; refine (c2.out _).mono ?_; rintro e w3 ⟨rfl, hb3⟩; obtain ⟨_, ead, _, k0, k1, k2, k3, k4, k5, k6, k7⟩ := HK.out _ ((HB.out.trans (hb2.mono (by omega))).trans (hb3.mono (by omega))); obtain rfl := Option.some.inj ead) | (go_at_call 58; refine (c3.out _).mono ?_; rintro e w' ⟨rfl, rfl⟩))
              go_ret
              exact ⟨ret_int e3.out, (HB.out.trans (hb2.mono (by omega))).trans (hb3.mono (by omega))⟩
            · have e3 := Lib.hid (e2.out rfl)
              go_wp2_with (first | (go_at_call 56; refine (c1.out _ HB.out).mono ?_; rintro e w2 ⟨rfl, hb2⟩; obtain ⟨_, ead, _, k0, k1, k2, k3, k4, k5, k6, k7⟩ := HK.out _ (HB.out.trans (hb2.mono (by omega))); obtain rfl := Option.some.inj ead; have hz2 := hb2.size) | (go_at_call 57; refine (c2.out _).mono ?_; rintro e w3 ⟨rfl, hb3⟩; obtain ⟨_, ead, _, k0, k1, k2, k3, k4, k5, k6, k7⟩ := HK.out _ ((HB.out.trans (hb2.mono (by omega))).trans (hb3.mono (by omega))); obtain rfl := Option.some.inj ead) | (go_at_call 58; refine (c3.out _).mono ?_; rintro e w' ⟨rfl, rfl⟩))
              go_roundw
              case rel => exact ⟨j + 1, by omega, by go_num, e3.out, (HB.out.trans (hb2.mono (by omega))).trans (hb3.mono (by omega))⟩
              case measure => (simp [intOf]; try omega)
      · have e1 := Lib.hid ((modsFrom_err (q := q) hlt (by rw [← HER.out]; exact h5e)).symm.trans HE.out)
        have h5' : (er != 0) = true := by simp [h5e]
        clear h5e
        go_wp2_with (go_at_call 56; refine (c1.out _ HB.out).mono ?_; rintro e w2 ⟨rfl, hb2⟩)
        go_ret
        exact ⟨ret_int (HER.out.trans e1.out), HB.out.trans (hb2.mono (by omega))⟩
    · have e1 := Lib.hid ((modsFrom_end (q := q) hlt).symm.trans HE.out)
      go_wp2_with fail
      go_ret
      exact ⟨ret_int e1.out, HB.out⟩

set_option maxHeartbeats 2000000 in
set_option maxRecDepth 100000 in
theorem Kernel_any (k : Krn) (w : World) (h : k.ok w) :
    Calls Try.prog 62 #[k.v] w fun e w' => e = .returned (.int .i64 (krnErr k)) ∧ Below w.heap.size w w' := by
  obtain ⟨⟨hr, hl, hs⟩⟩ := h
  have HR := Lib.hid hr
  have HS := Lib.hid hs
  have HL := Lib.hid hl
  unfold big at hl
  obtain ⟨w0, hw0⟩ : ∃ w0, w0 = w.alloc (.cells #[.int .i64 k.major, .int .i64 k.minor, .slice k.eA k.ex.length k.eC] 47) := ⟨_, rfl⟩
  obtain ⟨g0, g1, g2, hz, hb0⟩ := box3 hw0
  have hz0 : w.heap.size < w0.heap.size := by omega
  have H0 := Lib.hid hb0
  have hw0' := hw0.symm
  clear hw0 hb0 hr hs
  obtain ⟨E, hE⟩ : ∃ E, E = krnErr k := ⟨_, rfl⟩
  rw [← hE]
  have hke : krnErr k = if k.major < 0 ∨ 255 < k.major ∨ k.minor < 0 ∨ 255 < k.minor then 3 else if 8 < k.ex.length then 2 else expErr [] 4096 k.ex := rfl
  rw [hke] at hE
  clear hke
  have c3 := Lib.hid (MExports_any k.eA k.eC k.ex 4096 w0 ⟨HR.out.below H0.out, HL.out, HS.out⟩ (by omega) (by unfold big; omega))
  by_cases t1 : 0 ≤ k.major ∧ k.major ≤ 255
  · have c1 := Lib.hid (fun W => (rwithin_any k.major 0 255 W).mono fun _ _ h => (⟨h.1.trans (ret_bool (by simp; omega)), h.2⟩ : _ = Ending.returned (.bool true) ∧ _))
    by_cases t2 : 0 ≤ k.minor ∧ k.minor ≤ 255
    · have c2 := Lib.hid (fun W => (rwithin_any k.minor 0 255 W).mono fun _ _ h => (⟨h.1.trans (ret_bool (by simp; omega)), h.2⟩ : _ = Ending.returned (.bool true) ∧ _))
      rw [if_neg (by omega)] at hE
      clear t1 t2
      by_cases t3 : 8 < k.ex.length
      · rw [if_pos t3] at hE
        have t3' : (8 : Int) < k.ex.length := by omega
        clear t3
        go_enter Try.func62, Try.ntmps62
        go_wp2_with (first | (go_at_call 79; (with_reducible refine (c1.out _).mono ?_); rintro e w' ⟨rfl, rfl⟩) | (go_at_call 79; (with_reducible refine (c2.out _).mono ?_); rintro e w' ⟨rfl, rfl⟩))
        go_ret
        exact ⟨ret_int hE.symm, H0.out⟩
      · rw [if_neg t3] at hE
        have t3' : decide ((8 : Int) < k.ex.length) = false := by simp; omega
        clear t3
        go_enter Try.func62, Try.ntmps62
        go_wp2_with (first | (go_at_call 79; (with_reducible refine (c1.out _).mono ?_); rintro e w' ⟨rfl, rfl⟩) | (go_at_call 79; (with_reducible refine (c2.out _).mono ?_); rintro e w' ⟨rfl, rfl⟩) | (go_at_call 80; (with_reducible refine (c3.out).mono ?_); rintro e w3 ⟨rfl, hb3⟩))
        go_ret
        exact ⟨ret_int hE.symm, H0.out.trans (hb3.mono (by omega))⟩
    · have c2 := Lib.hid (fun W => (rwithin_any k.minor 0 255 W).mono fun _ _ h => (⟨h.1.trans (ret_bool (by simp; omega)), h.2⟩ : _ = Ending.returned (.bool false) ∧ _))
      rw [if_pos (by omega)] at hE
      clear t1 t2
      go_enter Try.func62, Try.ntmps62
      go_wp2_with (first | (go_at_call 79; (with_reducible refine (c1.out _).mono ?_); rintro e w' ⟨rfl, rfl⟩) | (go_at_call 79; (with_reducible refine (c2.out _).mono ?_); rintro e w' ⟨rfl, rfl⟩))
      go_ret
      exact ⟨ret_int hE.symm, H0.out⟩
  · have c1 := Lib.hid (fun W => (rwithin_any k.major 0 255 W).mono fun _ _ h => (⟨h.1.trans (ret_bool (by simp; omega)), h.2⟩ : _ = Ending.returned (.bool false) ∧ _))
    rw [if_pos (by omega)] at hE
    clear t1
    go_enter Try.func62, Try.ntmps62
    go_wp2_with (first | (go_at_call 79; (with_reducible refine (c1.out _).mono ?_); rintro e w' ⟨rfl, rfl⟩))
    go_ret
    exact ⟨ret_int hE.symm, H0.out⟩




end Go.Proofs.Ytgkpbndeljnjcaa
