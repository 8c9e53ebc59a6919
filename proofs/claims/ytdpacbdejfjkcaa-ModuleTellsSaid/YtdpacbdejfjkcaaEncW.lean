import Derived.Test.YtdpacbdejfjkcaaPutW
import Derived.Test.YtdpacbdejfjkcaaCheckW
import Derived.Test.YtdpacbdejfjkcaaResPure
/- module.Bytes, module.Encode (chapter B). -/
namespace Go.Proofs.Ytdpacbdejfjkcaa
open Go.RowKit

theorem put1_any (b k : Nat) (n : Int) (l : List UInt8) (w : World) (h : Wr b l w) (hk : k ≤ 4) (hlen : l.length ≤ 80000) :
    Calls Try.prog 88 #[.pointer (some ⟨b, 0, none⟩), .int .i64 k, .slice (some ⟨w.heap.size, 0, none⟩) 1 1] (w.alloc (.cells #[.int .i64 n] 3)) fun e w' => (∃ u, e = .returned u) ∧ Wr b (l ++ digits n k) w' ∧ Below b w w' ∧ Kept b w w' := by
  have hb0 : Below w.heap.size w (w.alloc (.cells #[.int .i64 n] 3)) := (Below.refl _ _).alloc (Nat.le_refl _) _
  have hbl := h.lt
  refine (put_any b w.heap.size 1 k [n] l _ (h.below hb0) (heap_alloc_new _ _) (by omega) hk (by simp; omega)).mono ?_
  rintro e w' ⟨hu, h2, hb2, hk2⟩
  refine ⟨hu, ?_, (hb0.mono (by omega)).trans hb2, (Kept.of_below hb0).trans hk2⟩
  simpa using h2
theorem put2_any (b k : Nat) (n m : Int) (l : List UInt8) (w : World) (h : Wr b l w) (hk : k ≤ 4) (hlen : l.length ≤ 80000) :
    Calls Try.prog 88 #[.pointer (some ⟨b, 0, none⟩), .int .i64 k, .slice (some ⟨w.heap.size, 0, none⟩) 2 2] (w.alloc (.cells #[.int .i64 n, .int .i64 m] 3)) fun e w' => (∃ u, e = .returned u) ∧ Wr b (l ++ digits n k ++ digits m k) w' ∧ Below b w w' ∧ Kept b w w' := by
  have hb0 : Below w.heap.size w (w.alloc (.cells #[.int .i64 n, .int .i64 m] 3)) := (Below.refl _ _).alloc (Nat.le_refl _) _
  have hbl := h.lt
  refine (put_any b w.heap.size 2 k [n, m] l _ (h.below hb0) (heap_alloc_new _ _) (by omega) hk (by simp; omega)).mono ?_
  rintro e w' ⟨hu, h2, hb2, hk2⟩
  refine ⟨hu, ?_, (hb0.mono (by omega)).trans hb2, (Kept.of_below hb0).trans hk2⟩
  simpa using h2
theorem b0cell {n : Nat} {w0 wk : World} (hb : Below (n + 1) w0 wk) : ∀ o, wk.cell? ⟨n, o, none⟩ = w0.cell? ⟨n, o, none⟩ := fun o => hb.cell (p := ⟨n, o, none⟩) (Nat.lt_succ_self n)
theorem impErr_ok {i : Imp} (h : impErr i = 0) : isName i.mod = true ∧ isName i.name = true ∧ 0 ≤ i.major ∧ i.major ≤ 255 ∧ 0 ≤ i.minor ∧ i.minor ≤ 255 := by
  unfold impErr at h
  by_cases h1 : isName i.mod = false ∨ isName i.name = false
  · rw [if_pos h1] at h; omega
  rw [if_neg h1] at h
  by_cases h2 : i.major < 0 ∨ 255 < i.major ∨ i.minor < 0 ∨ 255 < i.minor
  · rw [if_pos h2] at h; omega
  simp only [not_or, Bool.not_eq_false] at h1
  exact ⟨h1.1, h1.2, by omega⟩
theorem impsErr_ok : ∀ {l : List Imp} {seen : List (ByteArray × ByteArray)}, impsErr seen l = 0 → ∀ x ∈ l, impErr x = 0
  | y :: l, seen, h, x, hx => by
    unfold impsErr at h
    by_cases h1 : impErr y = 1
    · rw [if_pos h1] at h; omega
    rw [if_neg h1] at h
    split at h
    · omega
    · by_cases h2 : impErr y = 0
      · rw [if_neg (by omega)] at h
        rcases List.mem_cons.1 hx with rfl | hx
        · exact h2
        · exact impsErr_ok h x hx
      · rw [if_pos h2] at h; exact absurd h h2
/-- of a module that is right: how great it may be -/
theorem enc_bounds {m : Mod} (h : modErr m = 0) : m.name.size ≤ 10 ∧ m.text.size ≤ 256 ∧ m.ex.length ≤ 6 ∧ m.im.length ≤ 6 ∧ m.pa.length ≤ 12 ∧ (∀ x ∈ m.ex, (encExp x).length ≤ 13) ∧ (∀ x ∈ m.im, (encImp x).length ≤ 24) := by
  obtain ⟨h1, _, h3, _, _, h6, h7, h8, h9, h10, _⟩ := modErr_facts h
  refine ⟨isName_size h1, h3, h6, h7, h8, fun x hx => ?_, fun x hx => ?_⟩
  · have := isName_size (expErr_ok h9 x hx).1
    rw [encExp_length]; omega
  · have := impErr_ok (impsErr_ok h10 x hx)
    have h1 := isName_size this.1
    have h2 := isName_size this.2.1
    rw [encImp_length]; omega

theorem patsErr_ok {z ni : Int} : ∀ {l : List Pat} {e : Int}, patsErr z ni e l = 0 → ∀ p ∈ l, ∃ e', patErr z ni e' p = 0
  | p :: l, e, h, q, hq => by
    unfold patsErr at h
    by_cases h1 : patErr z ni e p = 0
    · rw [if_neg (by omega)] at h
      rcases List.mem_cons.1 hq with rfl | hq
      · exact ⟨e, h1⟩
      · exact patsErr_ok h q hq
    · rw [if_pos h1] at h; exact absurd h h1
theorem patErr_inv {z ni e : Int} {p : Pat} (h : patErr z ni e p = 0) : widthOf p.kind ≠ 0 ∧ -1 ≤ p.sym ∧ p.sym < ni ∧ 0 ≤ p.add ∧ p.add ≤ 65535 ∧ 0 ≤ p.at_ ∧ p.at_ ≤ z - widthOf p.kind := by
  unfold patErr at h
  by_cases h1 : widthOf p.kind = 0
  · rw [if_pos h1] at h; omega
  rw [if_neg h1] at h
  split at h
  · omega
  · exact ⟨h1, by omega⟩
theorem mod_pats {m : Mod} (h : modErr m = 0) : patsErr m.text.size m.im.length 0 m.pa = 0 := by
  obtain ⟨h1, h2, h3, h4, h5, h6, h7, h8, h9, h10, h11⟩ := modErr_facts h
  unfold modErr at h
  rw [if_neg (by simp [h1, h2]), if_neg (by omega), if_neg (by omega), if_neg (by omega), if_neg (by omega), if_neg (by omega)] at h
  exact h
theorem pats_sym {m : Mod} (h : modErr m = 0) : ∀ p ∈ m.pa, -1 ≤ p.sym ∧ p.sym < 6 := fun p hp => by
  obtain ⟨e, he⟩ := patsErr_ok (mod_pats h) p hp
  have := patErr_inv he
  have h7 := (modErr_facts h).2.2.2.2.2.2.1
  omega

set_option maxHeartbeats 8000000 in
set_option maxRecDepth 100000 in
theorem MBytes_any (m : Mod) (w : World) (hm : m.ok w) (he : modErr m = 0) :
    Calls Try.prog 59 #[m.v] w fun e w' => e = .returned (.string ⟨(encMod m).toArray⟩) ∧ Below w.heap.size w w' := by
  obtain ⟨b1, b2, b3, b4, b5, b6, b7⟩ := enc_bounds he
  obtain ⟨w0, hw0⟩ : ∃ w0, w0 = w.alloc (.cells #[.string m.name, .int .i64 m.major, .int .i64 m.minor, .string m.text, .slice m.eA m.ex.length m.eC, .slice m.iA m.im.length m.iC, .slice m.pA m.pa.length m.pC] 26) := ⟨_, rfl⟩
  obtain ⟨e0, e1, e2, e3, e4, e5, e6, hz, hb⟩ := box7 hw0
  obtain ⟨eA, heA⟩ : ∃ eA, eA = m.eA := ⟨_, rfl⟩
  obtain ⟨iA, hiA⟩ : ∃ iA, iA = m.iA := ⟨_, rfl⟩
  obtain ⟨pA, hpA⟩ : ∃ pA, pA = m.pA := ⟨_, rfl⟩
  rw [← heA] at e4
  rw [← hiA] at e5
  rw [← hpA] at e6
  have HEA := Lib.hid heA
  have HIA := Lib.hid hiA
  have HPA := Lib.hid hpA
  have hw0' := hw0.symm
  have hz0 : w.heap.size < w0.heap.size := by omega
  have H0 := Lib.hid hb
  obtain ⟨w1, hw1⟩ : ∃ w1, w1 = w0.alloc (.cells #[.pointer none, .slice none 0 0] 114) := ⟨_, rfl⟩
  have hr1 : Wr (w.heap.size + 1) [] w1 := by
    have := Lib.fresh_isBuilder 114 5 w0
    rw [hz] at this
    exact hw1 ▸ this
  have hbB1 : Below (w.heap.size + 1) w0 w1 := by rw [hw1]; exact (Below.refl _ _).alloc (by omega) _
  have hw1' := hw1.symm
  have HM := Lib.hid hm
  have R1 := Lib.hid hr1
  have B1 := Lib.hid hbB1
  have c1 := b0cell hbB1
  have hend : encMod m = encMod m := rfl
  have hN : m.name.data.toList.length = m.name.size := by rw [Array.length_toList]; rfl
  have hT : m.text.data.toList.length = m.text.size := by rw [Array.length_toList]; rfl
  clear hw0 hb hw1 hr1 hbB1 hend hm heA hiA hpA
  go_enter Try.func59, Try.ntmps59
  go_wp2_with fail
  refine (wname_any (w.heap.size + 1) m.name [] w1 R1.out (by simp; omega)).mono ?_
  rintro e w2 ⟨⟨u2, rfl⟩, h2, hb2, hk2⟩
  have B2 := Lib.hid (B1.out.trans hb2)
  have c2 := b0cell B2.out
  have R2 := Lib.hid h2
  clear h2 hb2 hk2 c1
  go_wp2_with fail
  refine (put2_any (w.heap.size + 1) 1 m.major m.minor _ w2 R2.out (by omega) (by simp only [List.nil_append, encName_length]; omega)).mono ?_
  rintro e w3 ⟨⟨u3, rfl⟩, h3, hb3, hk3⟩
  have B3 := Lib.hid (B2.out.trans hb3)
  have c3 := b0cell B3.out
  have R3 := Lib.hid h3
  clear h3 hb3 hk3 c2
  go_wp2_with fail
  refine (put1_any (w.heap.size + 1) 2 m.text.size _ w3 R3.out (by omega) (by simp only [List.nil_append, List.length_append, digits_length, encName_length]; omega)).mono ?_
  rintro e w4 ⟨⟨u4, rfl⟩, h4, hb4, hk4⟩
  have B4 := Lib.hid (B3.out.trans hb4)
  have c4 := b0cell B4.out
  have R4 := Lib.hid h4
  clear h4 hb4 hk4 c3
  go_wp2_with fail
  go_region_with (go_at_call 89; refine (WriteString_any 114 (w.heap.size + 1) holdsW _ m.text w4.drew R4.out (by simp only [List.nil_append, List.length_append, digits_length, encName_length]; omega)).mono ?_; rintro e w5 ⟨⟨u5, rfl⟩, h5, hb5, hk5⟩)
  obtain ⟨P, hP⟩ : ∃ P, P = encHead m := ⟨_, rfl⟩
  have R5 := Lib.hid (show Wr (w.heap.size + 1) P w5 by rw [hP]; simpa [encHead] using h5)
  have hPl : P.length ≤ 280 := by rw [hP]; unfold encHead; simp only [List.length_append, digits_length, encName_length, hT]; omega
  have HENC := Lib.hid (show encMod m = P ++ digits m.ex.length 1 ++ m.ex.flatMap encExp ++ digits m.im.length 1 ++ m.im.flatMap encImp ++ digits m.pa.length 1 ++ m.pa.flatMap encPat by rw [hP]; rfl)
  have B5 := Lib.hid (B4.out.drew.trans hb5)
  have c5 := b0cell B5.out
  clear h5 hb5 hk5 c4 hP R4 R3 R2
  go_wp2_with fail
  refine (put1_any (w.heap.size + 1) 1 m.ex.length _ w5 R5.out (by omega) (by omega)).mono ?_
  rintro e w6 ⟨⟨u6, rfl⟩, h6, hb6, hk6⟩
  obtain ⟨P1, hP1⟩ : ∃ P1, P1 = P ++ digits m.ex.length 1 := ⟨_, rfl⟩
  have hP1l : P1.length ≤ 281 := by rw [hP1, List.length_append, digits_length]; omega
  rw [← hP1] at h6 HENC
  have R6 := Lib.hid h6
  have B6 := Lib.hid (B5.out.trans hb6)
  have c6 := b0cell B6.out
  clear h6 hb6 hk6 c5 hP1 R5
  go_wp2_with fail
  go_loopw [44] (fun i wr => ∃ (j : Nat), j ≤ m.ex.length ∧ i = .int .i64 j ∧ Wr (w.heap.size + 1) (P1 ++ (m.ex.take j).flatMap encExp) wr ∧ Below (w.heap.size + 1) w0 wr) (fun i _ => m.ex.length - (intOf i).toNat)
  case atStart => exact ⟨0, by omega, rfl, by simpa using R6.out, B6.out⟩
  case round =>
    obtain ⟨j, hj, rfl, hw, hb⟩ := hrel
    have HB := Lib.hid hb
    have HW := Lib.hid hw
    have hbw := hw.lt
    have HX := Lib.hid (show Below w.heap.size w wr from H0.out.trans (hb.mono (by omega)))
    have hfl := flat_le (f := encExp) (K := 13) (l := m.ex.take j) (fun x hx => b6 x (List.mem_of_mem_take hx))
    rw [List.length_take] at hfl
    have hfl2 : (P1 ++ (m.ex.take j).flatMap encExp).length ≤ 400 := by rw [List.length_append]; omega
    by_cases hlt : j < m.ex.length
    · have hlt' : (j : Int) < m.ex.length := by omega
      obtain ⟨ad, ead, hab, h0, h1⟩ := exp_at HM.out.ex.1 HX.out j hlt
      obtain rfl : eA = some ad := HEA.out.trans ead
      clear ead
      have HE := Lib.hid (flat_take (f := encExp) hlt)
      have hx := b6 (m.ex[j]'hlt) (List.getElem_mem _)
      obtain ⟨x, hxx⟩ : ∃ x, x = m.ex[j]'hlt := ⟨_, rfl⟩
      rw [← hxx] at h0 h1 HE hx
      rw [encExp_length] at hx
      obtain ⟨wx, hwx⟩ : ∃ wx, wx = wr.alloc (.cells #[.string x.name, .int .i64 x.at_] 91) := ⟨_, rfl⟩
      obtain ⟨x0, x1, hzx, hbx⟩ := box2 hwx
      have hgx : wx.heap[wr.heap.size]? = some (.cells #[.string x.name, .int .i64 x.at_] 91 (0, 0)) := hwx ▸ heap_alloc_new _ _
      have HGX := Lib.hid hgx
      have hwx' := hwx.symm
      have RX := Lib.hid (HW.out.below hbx)
      have BX := Lib.hid (HB.out.trans (hbx.mono (by omega)))
      clear hb hw hfl hxx hwx hgx hbx
      go_wp2_with fail
      refine (wname_any (w.heap.size + 1) x.name _ wx RX.out (by omega)).mono ?_
      rintro e w7 ⟨⟨u7, rfl⟩, h7, hb7, hk7⟩
      have R7 := Lib.hid h7
      have B7 := Lib.hid (BX.out.trans hb7)
      have hg7 := hk7.heap HGX.out (by omega) (by decide)
      have y0 : w7.cell? ⟨wr.heap.size, 0, none⟩ = some (.string x.name) := by rw [Lib.cell_of_heap hg7]; rfl
      have y1 : w7.cell? ⟨wr.heap.size, 1, none⟩ = some (.int .i64 x.at_) := by rw [Lib.cell_of_heap hg7]; rfl
      clear h7 hb7 hk7 hg7 x0 x1
      go_wp2_with fail
      refine (put1_any (w.heap.size + 1) 2 x.at_ _ w7 R7.out (by omega) (by rw [List.length_append, encName_length]; omega)).mono ?_
      rintro e w8 ⟨⟨u8, rfl⟩, h8, hb8, hk8⟩
      have R8 := Lib.hid h8
      have B8 := Lib.hid (B7.out.trans hb8)
      clear h8 hb8 hk8 y0 y1
      go_wp2_with fail
      go_roundw
      case rel => exact ⟨j + 1, by omega, by go_num, by rw [HE.out]; have := R8.out; simpa [encExp] using this, B8.out⟩
      case measure => (simp [intOf]; try omega)
    · have e0 : m.ex.take j = m.ex := List.take_of_length_le (by omega)
      rw [e0] at HW hfl2
      have c9 := b0cell HB.out
      clear e0 hfl hb hw
      go_wp2_with fail
      refine (put1_any (w.heap.size + 1) 1 m.im.length _ wr HW.out (by omega) (by omega)).mono ?_
      rintro e w6 ⟨⟨u6, rfl⟩, h6, hb6, hk6⟩
      obtain ⟨P2, hP2⟩ : ∃ P2, P2 = P1 ++ m.ex.flatMap encExp ++ digits m.im.length 1 := ⟨_, rfl⟩
      have hP2l : P2.length ≤ 401 := by rw [hP2, List.length_append, digits_length]; omega
      rw [← hP2] at h6 HENC
      have R6 := Lib.hid h6
      have B6 := Lib.hid (HB.out.trans hb6)
      have c6 := b0cell B6.out
      clear h6 hb6 hk6 c9 hP2 HW HB hfl2
      go_wp2_with fail
      go_loopw [67] (fun i wr => ∃ (j : Nat), j ≤ m.im.length ∧ i = .int .i64 j ∧ Wr (w.heap.size + 1) (P2 ++ (m.im.take j).flatMap encImp) wr ∧ Below (w.heap.size + 1) w0 wr) (fun i _ => m.im.length - (intOf i).toNat)
      case atStart => exact ⟨0, by omega, rfl, by simpa using R6.out, B6.out⟩
      case round =>
        obtain ⟨j, hj, rfl, hw, hb⟩ := hrel
        have HB := Lib.hid hb
        have HW := Lib.hid hw
        have hbw := hw.lt
        have HX := Lib.hid (show Below w.heap.size w wr from H0.out.trans (hb.mono (by omega)))
        have hfl := flat_le (f := encImp) (K := 24) (l := m.im.take j) (fun x hx => b7 x (List.mem_of_mem_take hx))
        rw [List.length_take] at hfl
        have hfl2 : (P2 ++ (m.im.take j).flatMap encImp).length ≤ 600 := by rw [List.length_append]; omega
        by_cases hlt : j < m.im.length
        · have hlt' : (j : Int) < m.im.length := by omega
          obtain ⟨ad, ead, hab, h0, h1, h2, h3⟩ := imp_at HM.out.im.1 HX.out j hlt
          obtain rfl : iA = some ad := HIA.out.trans ead
          have HE := Lib.hid (flat_take (f := encImp) hlt)
          have hx := b7 (m.im[j]'hlt) (List.getElem_mem _)
          obtain ⟨x, hxx⟩ : ∃ x, x = m.im[j]'hlt := ⟨_, rfl⟩
          rw [← hxx] at h0 h1 h2 h3 HE hx
          rw [encImp_length] at hx
          obtain ⟨wx, hwx⟩ : ∃ wx, wx = wr.alloc (.cells #[.string x.mod, .string x.name, .int .i64 x.major, .int .i64 x.minor] 52) := ⟨_, rfl⟩
          obtain ⟨x0, x1, x2, x3, hzx, hbx⟩ := box4 hwx
          have HGX := Lib.hid (show wx.heap[wr.heap.size]? = some (.cells #[.string x.mod, .string x.name, .int .i64 x.major, .int .i64 x.minor] 52 (0, 0)) from hwx ▸ heap_alloc_new _ _)
          have hwx' := hwx.symm
          have RX := Lib.hid (HW.out.below hbx)
          have BX := Lib.hid (HB.out.trans (hbx.mono (by omega)))
          clear hb hw hfl hxx hwx hbx ead
          go_wp2_with fail
          refine (wname_any (w.heap.size + 1) x.mod _ wx RX.out (by omega)).mono ?_
          rintro e w7 ⟨⟨u7, rfl⟩, h7, hb7, hk7⟩
          have R7 := Lib.hid h7
          have B7 := Lib.hid (BX.out.trans hb7)
          have HG7 := Lib.hid (hk7.heap HGX.out (by omega) (by decide))
          have y1 : w7.cell? ⟨wr.heap.size, 1, none⟩ = some (.string x.name) := by rw [Lib.cell_of_heap HG7.out]; rfl
          clear h7 hb7 hk7 x0 x1 x2 x3
          go_wp2_with fail
          refine (wname_any (w.heap.size + 1) x.name _ w7 R7.out (by rw [List.length_append, encName_length]; omega)).mono ?_
          rintro e w8 ⟨⟨u8, rfl⟩, h8, hb8, hk8⟩
          have R8 := Lib.hid h8
          have B8 := Lib.hid (B7.out.trans hb8)
          have HG8 := Lib.hid (hk8.heap HG7.out (by omega) (by decide))
          have y2 : w8.cell? ⟨wr.heap.size, 2, none⟩ = some (.int .i64 x.major) := by rw [Lib.cell_of_heap HG8.out]; rfl
          have y3 : w8.cell? ⟨wr.heap.size, 3, none⟩ = some (.int .i64 x.minor) := by rw [Lib.cell_of_heap HG8.out]; rfl
          clear h8 hb8 hk8 y1
          go_wp2_with fail
          refine (put2_any (w.heap.size + 1) 1 x.major x.minor _ w8 R8.out (by omega) (by rw [List.length_append, List.length_append, encName_length, encName_length]; omega)).mono ?_
          rintro e w9 ⟨⟨u9, rfl⟩, h9, hb9, hk9⟩
          have R9 := Lib.hid h9
          have B9 := Lib.hid (B8.out.trans hb9)
          clear h9 hb9 hk9 y2 y3
          go_wp2_with fail
          go_roundw
          case rel => exact ⟨j + 1, by omega, by go_num, by rw [HE.out]; have := R9.out; simpa [encImp] using this, B9.out⟩
          case measure => (simp [intOf]; try omega)
        · have e0 : m.im.take j = m.im := List.take_of_length_le (by omega)
          rw [e0] at HW hfl2
          have c9 := b0cell HB.out
          clear e0 hfl hb hw
          go_wp2_with fail
          refine (put1_any (w.heap.size + 1) 1 m.pa.length _ wr HW.out (by omega) (by omega)).mono ?_
          rintro e w6 ⟨⟨u6, rfl⟩, h6, hb6, hk6⟩
          obtain ⟨P3, hP3⟩ : ∃ P3, P3 = P2 ++ m.im.flatMap encImp ++ digits m.pa.length 1 := ⟨_, rfl⟩
          have hP3l : P3.length ≤ 601 := by rw [hP3, List.length_append, digits_length]; omega
          have hP30 : P3 ≠ [] := by rw [hP3]; intro h; have := congrArg List.length h; rw [List.length_append, digits_length] at this; simp at this
          rw [← hP3] at h6 HENC
          have R6 := Lib.hid h6
          have B6 := Lib.hid (HB.out.trans hb6)
          have c6 := b0cell B6.out
          have HP30 := Lib.hid hP30
          clear h6 hb6 hk6 c9 hP3 HW HB hfl2 hP30
          go_wp2_with fail
          go_loopw [96] (fun i wr => ∃ (j : Nat), j ≤ m.pa.length ∧ i = .int .i64 j ∧ Wr (w.heap.size + 1) (P3 ++ (m.pa.take j).flatMap encPat) wr ∧ Below (w.heap.size + 1) w0 wr) (fun i _ => m.pa.length - (intOf i).toNat)
          case atStart => exact ⟨0, by omega, rfl, by simpa using R6.out, B6.out⟩
          case round =>
            obtain ⟨j, hj, rfl, hw, hb⟩ := hrel
            have HB := Lib.hid hb
            have HW := Lib.hid hw
            have hbw := hw.lt
            have HX := Lib.hid (show Below w.heap.size w wr from H0.out.trans (hb.mono (by omega)))
            have hfl := flat_le (f := encPat) (K := 6) (l := m.pa.take j) (fun x _ => by rw [encPat_length]; omega)
            rw [List.length_take] at hfl
            have hfl2 : (P3 ++ (m.pa.take j).flatMap encPat).length ≤ 700 := by rw [List.length_append]; omega
            by_cases hlt : j < m.pa.length
            · have hlt' : (j : Int) < m.pa.length := by omega
              obtain ⟨ad, ead, hab, h0, h1, h2, h3⟩ := pat_at HM.out.pa.1 HX.out j hlt
              obtain rfl : pA = some ad := HPA.out.trans ead
              have HE := Lib.hid (flat_take (f := encPat) hlt)
              have hx := pats_sym he (m.pa[j]'hlt) (List.getElem_mem _)
              obtain ⟨x, hxx⟩ : ∃ x, x = m.pa[j]'hlt := ⟨_, rfl⟩
              rw [← hxx] at h0 h1 h2 h3 HE hx
              have Q1 := Lib.hid (show wrap64 (x.sym + 1) = x.sym + 1 from IntWalk.wrap64_in _ (by omega))
              clear hx
              obtain ⟨wx, hwx⟩ : ∃ wx, wx = wr.alloc (.cells #[.int .i64 x.kind, .int .i64 x.at_, .int .i64 x.sym, .int .i64 x.add] 75) := ⟨_, rfl⟩
              obtain ⟨x0, x1, x2, x3, hzx, hbx⟩ := box4 hwx
              have HGX := Lib.hid (show wx.heap[wr.heap.size]? = some (.cells #[.int .i64 x.kind, .int .i64 x.at_, .int .i64 x.sym, .int .i64 x.add] 75 (0, 0)) from hwx ▸ heap_alloc_new _ _)
              have hwx' := hwx.symm
              have RX := Lib.hid (HW.out.below hbx)
              have BX := Lib.hid (HB.out.trans (hbx.mono (by omega)))
              clear hb hw hfl hxx hwx hbx ead hzx
              go_wp2_with fail
              refine (put1_any (w.heap.size + 1) 1 x.kind _ wx RX.out (by omega) (by omega)).mono ?_
              rintro e w7 ⟨⟨u7, rfl⟩, h7, hb7, hk7⟩
              have R7 := Lib.hid h7
              have B7 := Lib.hid (BX.out.trans hb7)
              have HG7 := Lib.hid (hk7.heap HGX.out (by omega) (by decide))
              have y1 : w7.cell? ⟨wr.heap.size, 1, none⟩ = some (.int .i64 x.at_) := by rw [Lib.cell_of_heap HG7.out]; rfl
              clear h7 hb7 hk7 x0 x1 x2 x3
              go_wp2_with fail
              refine (put1_any (w.heap.size + 1) 2 x.at_ _ w7 R7.out (by omega) (by rw [List.length_append, digits_length]; omega)).mono ?_
              rintro e w8 ⟨⟨u8, rfl⟩, h8, hb8, hk8⟩
              have R8 := Lib.hid h8
              have B8 := Lib.hid (B7.out.trans hb8)
              have HG8 := Lib.hid (hk8.heap HG7.out (by omega) (by decide))
              have y2 : w8.cell? ⟨wr.heap.size, 2, none⟩ = some (.int .i64 x.sym) := by rw [Lib.cell_of_heap HG8.out]; rfl
              clear h8 hb8 hk8 y1
              go_wp2_with fail
              rw [Q1.out]
              refine (put1_any (w.heap.size + 1) 1 (x.sym + 1) _ w8 R8.out (by omega) (by rw [List.length_append, List.length_append, digits_length, digits_length]; omega)).mono ?_
              rintro e w9 ⟨⟨u9, rfl⟩, h9, hb9, hk9⟩
              have R9 := Lib.hid h9
              have B9 := Lib.hid (B8.out.trans hb9)
              have HG9 := Lib.hid (hk9.heap HG8.out (by omega) (by decide))
              have y3 : w9.cell? ⟨wr.heap.size, 3, none⟩ = some (.int .i64 x.add) := by rw [Lib.cell_of_heap HG9.out]; rfl
              clear h9 hb9 hk9 y2
              go_wp2_with fail
              refine (put1_any (w.heap.size + 1) 2 x.add _ w9 R9.out (by omega) (by rw [List.length_append, List.length_append, List.length_append, digits_length, digits_length, digits_length]; omega)).mono ?_
              rintro e w10 ⟨⟨u10, rfl⟩, h10, hb10, hk10⟩
              have R10 := Lib.hid h10
              have B10 := Lib.hid (B9.out.trans hb10)
              clear h10 hb10 hk10 y3
              go_wp2_with fail
              go_roundw
              case rel => exact ⟨j + 1, by omega, by go_num, by rw [HE.out]; have := R10.out; simpa [encPat] using this, B10.out⟩
              case measure => (simp [intOf]; try omega)
            · have e0 : m.pa.take j = m.pa := List.take_of_length_le (by omega)
              rw [e0] at HW hfl2
              clear e0 hfl hb hw
              go_wp2_with fail
              refine (BString_any 114 (w.heap.size + 1) _ wr HW.out (by intro h; exact HP30.out (List.append_eq_nil_iff.1 h).1)).mono ?_
              rintro e w6 ⟨rfl, hb6⟩
              go_wp2_with fail
              go_ret
              exact ⟨by rw [HENC.out]; rfl, H0.out.trans ((HB.out.trans hb6).mono (by omega))⟩

set_option maxHeartbeats 1000000 in
set_option maxRecDepth 100000 in
theorem Encode_any (m : Mod) (w : World) (hm : m.ok w) :
    Calls Try.prog 31 #[m.v] w fun e w' => e = .returned (.tuple #[.string (if modErr m ≠ 0 then ⟨#[]⟩ else ⟨(encMod m).toArray⟩), .int .i64 (modErr m)]) ∧ Below w.heap.size w w' := by
  obtain ⟨w0, hw0⟩ : ∃ w0, w0 = w.alloc (.cells #[.string m.name, .int .i64 m.major, .int .i64 m.minor, .string m.text, .slice m.eA m.ex.length m.eC, .slice m.iA m.im.length m.iC, .slice m.pA m.pa.length m.pC] 26) := ⟨_, rfl⟩
  obtain ⟨e0, e1, e2, e3, e4, e5, e6, hz, hb⟩ := box7 hw0
  have hw0' := hw0.symm
  have hz0 : w.heap.size < w0.heap.size := by omega
  have H0 := Lib.hid hb
  have c1 := Lib.hid (Check_any m w0 (hm.below hb))
  have c2 := Lib.hid (fun W (hb : Below w.heap.size w W) he => MBytes_any m W (hm.below hb) he)
  obtain ⟨E, hE⟩ : ∃ E, E = modErr m := ⟨_, rfl⟩
  rw [← hE] at c1 c2 ⊢
  clear hw0 hb hm hE
  by_cases t0 : E = 0
  · obtain rfl := t0
    rw [if_neg (by omega)]
    have c3 := Lib.hid (fun W hb => c2.out W hb rfl)
    clear c2
    go_enter Try.func31, Try.ntmps31
    go_wp2_with (first | (go_at_call 36; refine (c1.out).mono ?_; rintro e w2 ⟨rfl, hb2⟩; obtain ⟨hcw2, hfw2⟩ := bcell hb2; have hz2 : w.heap.size < w2.heap.size := (by have := hb2.size; omega); have B2 := Lib.hid (H0.out.trans (hb2.mono (by omega)))) | (go_at_call 59; refine (c3.out _ B2.out).mono ?_; rintro e w3 ⟨rfl, hb3⟩))
    go_ret2
    exact ⟨rfl, B2.out.trans (hb3.mono (by omega))⟩
  · have t0' : (E != 0) = true := by simp [t0]
    rw [if_pos t0]
    clear t0 c2
    go_enter Try.func31, Try.ntmps31
    go_wp2_with (first | (go_at_call 36; refine (c1.out).mono ?_; rintro e w2 ⟨rfl, hb2⟩))
    go_ret2
    exact ⟨rfl, H0.out.trans (hb2.mono (by omega))⟩

end Go.Proofs.Ytdpacbdejfjkcaa
