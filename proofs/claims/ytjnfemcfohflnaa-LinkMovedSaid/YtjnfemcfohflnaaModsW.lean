import Derived.Test.YtjnfemcfohflnaaRCheckW
import Derived.Test.YtjnfemcfohflnaaResPure
import Derived.Shelf.GgSortFunc.Insertion
/- Rows of placed modules (chapters D and F): region.Many, resolve.Modules, resolve.Kernel, resolve.Placed, and the document's SizeOf, CheckModules, CheckKernel. -/
namespace Go.Proofs.Ytjnfemcfohflnaa
open Go.RowKit

set_option maxHeartbeats 1000000 in
set_option maxRecDepth 100000 in
theorem Many_any (m : Mod) (w : World) (h : m.text.size ≤ big) :
    Calls Try.prog 22 #[m.v] w fun e w' => e = .returned (.int .i64 (manyOf m)) ∧ Below w.heap.size w w' := by
  unfold big at h
  have q1 : wrap64 ((m.text.size : Int) + 64) = m.text.size + 64 := IntWalk.wrap64_in _ (by omega)
  have q2 : wrap64 ((m.text.size : Int) + 64 - 1) = m.text.size + 64 - 1 := IntWalk.wrap64_in _ (by omega)
  have q3 : ((m.text.size : Int) + 64 - 1).tdiv 64 = manyOf m := by unfold manyOf; rw [Int.tdiv_eq_ediv_of_nonneg (by omega)]; omega
  have q4 : wrap64 (manyOf m) = manyOf m := by unfold manyOf; exact IntWalk.wrap64_in _ (by omega)
  go_enter Try.func22, Try.ntmps22
  go_wp2_with fail
  go_ret
  exact ⟨by simp_all, (Below.refl _ _).alloc (Nat.le_refl _) _⟩

set_option maxHeartbeats 2000000 in
set_option maxRecDepth 100000 in
/-- resolve.Modules, for whatever function value says yes or no to one that is right -/
theorem Modules_any (A : Option Addr) (c : Nat) (l : List Plc) (g : Nat) (q : Plc → Bool) (w : World) (eg : ∀ args w, (callFunc g args).run Try.prog w = .ok (.enter g args) w) (h : PlsOk w A l)
    (hq : ∀ x ∈ l, modErr x.m = 0 → ∀ W, Calls Try.prog g #[x.v] W fun e w' => e = .returned (.bool (q x)) ∧ Below W.heap.size W w') :
    Calls Try.prog 31 #[.slice A l.length c, .func (.func g) #[] #[]] w fun e w' => e = .returned (.int .i64 (modsAll q l)) ∧ Below w.heap.size w w' := by
  have hl := h.len
  unfold big at hl
  have HP := Lib.hid h
  have HQ := Lib.hid hq
  clear h hq
  by_cases h8 : 8 < l.length
  · have e1 := Lib.hid (show 2 = modsAll q l by unfold modsAll; rw [if_pos h8])
    have h8' : (8 : Int) < l.length := by omega
    go_enter Try.func31, Try.ntmps31
    go_wp2_with fail
    go_ret
    exact ⟨ret_int e1.out, Below.refl _ _⟩
  have h8' : decide ((8 : Int) < l.length) = false := by simp; omega
  have e0 := Lib.hid (show modsErr q l = modsAll q l by unfold modsAll; rw [if_neg h8])
  go_enter Try.func31, Try.ntmps31
  go_wp2_with fail
  go_loopw [13] (fun i wr => ∃ j : Nat, j ≤ l.length ∧ i = .int .i64 j ∧ modsFrom q l j = modsAll q l ∧ Below w.heap.size w wr) (fun i _ => l.length - (intOf i).toNat)
  case atStart => exact ⟨0, by omega, rfl, e0.out, Below.refl _ _⟩
  case round =>
    obtain ⟨j, hj, rfl, hE, hb⟩ := hrel
    have HE := Lib.hid hE
    have HB := Lib.hid hb
    clear hE
    by_cases hlt : j < l.length
    · have hlt' : (j : Int) < l.length := by omega
      obtain ⟨ad, rfl, hab, h0, h1, h2, h3, h4, h5, h6, h7⟩ := plc_at HP.out.row hb j hlt
      have hwz := hb.size
      have hmo := HP.out.each l[j] (List.getElem_mem _)
      have c1 := Lib.hid (fun W (hbW : Below w.heap.size w W) => Check_any (l[j]'hlt).m W (hmo.below hbW))
      obtain ⟨er, her⟩ : ∃ er, er = modErr (l[j]'hlt).m := ⟨_, rfl⟩
      rw [← her] at c1
      have HER := Lib.hid her
      have HQJ := Lib.hid (fun h0 => HQ.out (l[j]'hlt) (List.getElem_mem _) h0)
      have HX := Lib.hid ((HB.out).trans ((Below.refl w.heap.size wr).alloc (by omega) (.cells #[.string l[j].m.name, iv l[j].m.major, iv l[j].m.minor, .string l[j].m.text, .slice l[j].m.eA l[j].m.ex.length l[j].m.eC, .slice l[j].m.iA l[j].m.im.length l[j].m.iC, .slice l[j].m.pA l[j].m.pa.length l[j].m.pC, iv l[j].first] 36)))
      clear hb her hmo
      by_cases h5e : er = 0
      · obtain rfl := h5e
        have c2 := Lib.hid (HQJ.out HER.out.symm)
        obtain ⟨bq, hbq⟩ : ∃ bq, bq = q (l[j]'hlt) := ⟨_, rfl⟩
        rw [← hbq] at c2
        have HBQ := Lib.hid hbq
        clear hbq
        cases bq
        · have e1 := Lib.hid ((modsFrom_no hlt HER.out.symm HBQ.out.symm).symm.trans HE.out)
          go_wp2_with (first | (go_at_call 45; refine (c1.out _ HX.out).mono ?_; rintro e w2 ⟨rfl, hb2⟩; obtain ⟨hc2, hf2⟩ := bcell hb2; have hz2 : wr.heap.size < w2.heap.size := by have := hb2.size; simp at this; omega) | (go_at_fn g; refine (c2.out _).mono ?_; rintro e w3 ⟨rfl, hb3⟩))
          go_ret
          exact ⟨ret_int e1.out, (HX.out.trans (hb2.mono (by simp; omega))).trans (hb3.mono (by omega))⟩
        · have e1 := Lib.hid ((modsFrom_next hlt HER.out.symm HBQ.out.symm).trans HE.out)
          go_wp2_with (first | (go_at_call 45; refine (c1.out _ HX.out).mono ?_; rintro e w2 ⟨rfl, hb2⟩; obtain ⟨hc2, hf2⟩ := bcell hb2; have hz2 : wr.heap.size < w2.heap.size := by have := hb2.size; simp at this; omega) | (go_at_fn g; refine (c2.out _).mono ?_; rintro e w3 ⟨rfl, hb3⟩))
          go_roundw
          case rel => exact ⟨j + 1, by omega, by go_num, e1.out, (HX.out.trans (hb2.mono (by simp; omega))).trans (hb3.mono (by omega))⟩
          case measure => (simp [intOf]; try omega)
      · have e1 := Lib.hid ((modsFrom_err (q := q) hlt (by rw [← HER.out]; exact h5e)).symm.trans HE.out)
        have h5' : (er != 0) = true := by simp [h5e]
        clear h5e
        go_wp2_with (go_at_call 45; refine (c1.out _ HX.out).mono ?_; rintro e w2 ⟨rfl, hb2⟩)
        go_ret
        exact ⟨ret_int (HER.out.trans e1.out), HX.out.trans (hb2.mono (by simp; omega))⟩
    · have e1 := Lib.hid ((modsFrom_end (q := q) hlt).symm.trans HE.out)
      go_wp2_with fail
      go_ret
      exact ⟨ret_int e1.out, HB.out⟩

set_option maxHeartbeats 2000000 in
set_option maxRecDepth 100000 in
theorem Kernel_any (k : Krn) (w : World) (h : k.ok w) :
    Calls Try.prog 17 #[k.v] w fun e w' => e = .returned (.int .i64 (krnErr k)) ∧ Below w.heap.size w w' := by
  obtain ⟨⟨hr, hl, hs⟩⟩ := h
  have HR := Lib.hid hr
  have HS := Lib.hid hs
  have HL := Lib.hid hl
  unfold big at hl
  obtain ⟨w0, hw0⟩ : ∃ w0, w0 = w.alloc (.cells #[.int .i64 k.major, .int .i64 k.minor, .slice k.eA k.ex.length k.eC] 24) := ⟨_, rfl⟩
  obtain ⟨g0, g1, g2, hz, hb0⟩ := box3 hw0
  have hz0 : w.heap.size < w0.heap.size := by omega
  have H0 := Lib.hid hb0
  have hw0' := hw0.symm
  clear hw0 hb0 hr hs
  obtain ⟨E, hE⟩ : ∃ E, E = krnErr k := ⟨_, rfl⟩
  rw [← hE]
  have hke : krnErr k = if k.major < 0 ∨ 255 < k.major ∨ k.minor < 0 ∨ 255 < k.minor then 3 else if 8 < k.ex.length then 2 else expErr [] 4096 k.ex := rfl
  rw [hke] at hE
  clear hke
  have c3 := Lib.hid (MExports_any k.eA k.eC k.ex 4096 w0 ⟨HR.out.below H0.out, HL.out, HS.out⟩ (by omega) (by unfold big; omega))
  by_cases t1 : 0 ≤ k.major ∧ k.major ≤ 255
  · have c1 := Lib.hid (fun W => (rwithin_any k.major 0 255 W).mono fun _ _ h => (⟨h.1.trans (ret_bool (by simp; omega)), h.2⟩ : _ = Ending.returned (.bool true) ∧ _))
    by_cases t2 : 0 ≤ k.minor ∧ k.minor ≤ 255
    · have c2 := Lib.hid (fun W => (rwithin_any k.minor 0 255 W).mono fun _ _ h => (⟨h.1.trans (ret_bool (by simp; omega)), h.2⟩ : _ = Ending.returned (.bool true) ∧ _))
      rw [if_neg (by omega)] at hE
      clear t1 t2
      by_cases t3 : 8 < k.ex.length
      · rw [if_pos t3] at hE
        have t3' : (8 : Int) < k.ex.length := by omega
        clear t3
        go_enter Try.func17, Try.ntmps17
        go_wp2_with (first | (go_at_call 29; (with_reducible refine (c1.out _).mono ?_); rintro e w' ⟨rfl, rfl⟩) | (go_at_call 29; (with_reducible refine (c2.out _).mono ?_); rintro e w' ⟨rfl, rfl⟩))
        go_ret
        exact ⟨ret_int hE.symm, H0.out⟩
      · rw [if_neg t3] at hE
        have t3' : decide ((8 : Int) < k.ex.length) = false := by simp; omega
        clear t3
        go_enter Try.func17, Try.ntmps17
        go_wp2_with (first | (go_at_call 29; (with_reducible refine (c1.out _).mono ?_); rintro e w' ⟨rfl, rfl⟩) | (go_at_call 29; (with_reducible refine (c2.out _).mono ?_); rintro e w' ⟨rfl, rfl⟩) | (go_at_call 30; (with_reducible refine (c3.out).mono ?_); rintro e w3 ⟨rfl, hb3⟩))
        go_ret
        exact ⟨ret_int hE.symm, H0.out.trans (hb3.mono (by omega))⟩
    · have c2 := Lib.hid (fun W => (rwithin_any k.minor 0 255 W).mono fun _ _ h => (⟨h.1.trans (ret_bool (by simp; omega)), h.2⟩ : _ = Ending.returned (.bool false) ∧ _))
      rw [if_pos (by omega)] at hE
      clear t1 t2
      go_enter Try.func17, Try.ntmps17
      go_wp2_with (first | (go_at_call 29; (with_reducible refine (c1.out _).mono ?_); rintro e w' ⟨rfl, rfl⟩) | (go_at_call 29; (with_reducible refine (c2.out _).mono ?_); rintro e w' ⟨rfl, rfl⟩))
      go_ret
      exact ⟨ret_int hE.symm, H0.out⟩
  · have c1 := Lib.hid (fun W => (rwithin_any k.major 0 255 W).mono fun _ _ h => (⟨h.1.trans (ret_bool (by simp; omega)), h.2⟩ : _ = Ending.returned (.bool false) ∧ _))
    rw [if_pos (by omega)] at hE
    clear t1
    go_enter Try.func17, Try.ntmps17
    go_wp2_with (first | (go_at_call 29; (with_reducible refine (c1.out _).mono ?_); rintro e w' ⟨rfl, rfl⟩))
    go_ret
    exact ⟨ret_int hE.symm, H0.out⟩




end Go.Proofs.Ytjnfemcfohflnaa
