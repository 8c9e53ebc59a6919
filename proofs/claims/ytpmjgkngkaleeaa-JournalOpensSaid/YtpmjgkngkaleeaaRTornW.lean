import Derived.Test.YtpmjgkngkaleeaaRDoneW
/- The document's TornOf (chapter K): a flash behind a deed that is cut off. -/
namespace Go.Proofs.Ytpmjgkngkaleeaa
open Go.RowKit

/-- bytes that are mixed as far as j -/
def midM (was b : List UInt8) (keep : Nat → Nat) (j : Nat) : List UInt8 := b.mapIdx fun i x => if i < j then UInt8.ofNat (mixB (was.getD i 0).toNat x.toNat (keep i)) else x
theorem midM_zero (was b : List UInt8) (keep : Nat → Nat) : midM was b keep 0 = b := by
  unfold midM
  apply List.ext_getElem <;> simp
theorem midM_length (was b : List UInt8) (keep : Nat → Nat) (j : Nat) : (midM was b keep j).length = b.length := by simp [midM]
theorem midM_get (was b : List UInt8) (keep : Nat → Nat) (j : Nat) : (midM was b keep j).getD j 0 = b.getD j 0 := by
  rcases Nat.lt_or_ge j b.length with h | h
  · unfold midM
    rw [getD_mapIdx _ h, if_neg (by omega)]
  · rw [List.getD_eq_getElem?_getD, List.getD_eq_getElem?_getD, List.getElem?_eq_none (by rw [midM_length]; exact h), List.getElem?_eq_none h]
theorem midM_step (was b : List UInt8) (keep : Nat → Nat) (j : Nat) : (midM was b keep j).set j (UInt8.ofNat (mixB (was.getD j 0).toNat (b.getD j 0).toNat (keep j))) = midM was b keep (j + 1) := by
  apply List.ext_getElem
  · simp [midM]
  · intro i h1 h2
    have hi : i < b.length := by simpa [midM] using h2
    rw [List.getElem_set]
    split
    · next e =>
      subst e
      simp only [midM, List.getElem_mapIdx]
      rw [if_pos (by omega), getD_lt hi]
    · next e =>
      simp only [midM, List.getElem_mapIdx]
      by_cases hij : i < j
      · rw [if_pos hij, if_pos (by omega)]
      · rw [if_neg hij, if_neg (by omega)]
theorem midM_all (was b : List UInt8) (keep : Nat → Nat) : midM was b keep b.length = mixL was b keep := by
  unfold midM mixL
  apply List.ext_getElem
  · simp
  · intro i h1 h2
    have hi : i < b.length := by simpa using h2
    simp only [List.getElem_mapIdx]
    rw [if_pos hi]

set_option maxHeartbeats 4000000 in
set_option maxRecDepth 100000 in
theorem TornOf_any (f : Fl) (d : Ded) (s : ByteArray) (w : World) (h : f.ok w) (hf : flErr f.bl = 0) (hd : dedErr f.bl.length d = 0) (hs : s.size ≤ big) :
    Calls Try.prog 20 #[f.v, d.v, .string s] w fun e w' => Below w.heap.size w w' ∧ ∃ (A' : Option Addr) (c' : Nat), e = .returned (.agg #[.slice A' f.bl.length c']) ∧ f.bl.length ≤ c' ∧ TOwn w' w.heap.size (.slice A' f.bl.length c') (tornL f.bl d (bytesOf s)) := by
  have hln := (flErr_ok.1 hf).1
  obtain ⟨w1, hw1⟩ : ∃ w1, w1 = w.alloc (.cells #[.slice f.a f.bl.length f.c] 24) := ⟨_, rfl⟩
  obtain ⟨f0, hz1, hb1⟩ := box1 hw1
  obtain ⟨w2, hw2⟩ : ∃ w2, w2 = w1.alloc (.cells #[.int .i64 d.kind, .int .i64 d.at_, .int .i64 d.value] 32) := ⟨_, rfl⟩
  obtain ⟨d0, d1, d2, hz2, hb2⟩ := box3 hw2
  obtain ⟨w3, hw3⟩ : ∃ w3, w3 = w2.alloc (.cells #[.slice none 0 0] 24) := ⟨_, rfl⟩
  obtain ⟨_, hR, hz3, hb3⟩ := box_new hw3
  obtain ⟨w4, hw4⟩ : ∃ w4, w4 = w3.alloc (.cells #[] 9) := ⟨_, rfl⟩
  have hb4 : Below w3.heap.size w3 w4 := hw4 ▸ (Below.refl _ _).alloc (Nat.le_refl _) _
  have hz4 : w4.heap.size = w3.heap.size + 1 := by rw [hw4]; simp
  have HO4 := Lib.hid (show TOwn w4 w3.heap.size (.slice (some ⟨w3.heap.size, 0, none⟩) 0 0) [] from hw4 ▸ TOwn.empty w3 w3.heap.size (Nat.le_refl _))
  have hb24 := hb3.trans (hb4.mono (by omega))
  have k0 := (hb24.cell (p := ⟨w.heap.size, 0, none⟩) (by simp; omega)).trans ((hb2.cell (p := ⟨w.heap.size, 0, none⟩) (by simp; omega)).trans f0)
  have x0 := (hb24.cell (p := ⟨w1.heap.size, 0, none⟩) (by simp; omega)).trans d0
  have x1 := (hb24.cell (p := ⟨w1.heap.size, 1, none⟩) (by simp; omega)).trans d1
  have x2 := (hb24.cell (p := ⟨w1.heap.size, 2, none⟩) (by simp; omega)).trans d2
  have HB3 := Lib.hid (hb1.trans ((hb2.trans (hb3.mono (by omega))).mono (by omega)))
  have HB34 := Lib.hid hb4
  have HB4 := Lib.hid (HB3.out.trans (hb4.mono (by omega)))
  have HT4 := Lib.hid (h.row.below HB4.out)
  have HR4 := Lib.hid ((hb4.block _ (show w2.heap.size < w3.heap.size by omega)).trans hR)
  have HZ := Lib.hid (show w1.heap.size = w.heap.size + 1 ∧ w2.heap.size = w.heap.size + 2 ∧ w3.heap.size = w.heap.size + 3 ∧ w4.heap.size = w.heap.size + 4 by omega)
  have HF := Lib.hid hf
  have HD := Lib.hid hd
  have HLen := Lib.hid (show ([] : List ByteArray).length + f.bl.length ≤ 1000000 by simp only [List.length_nil]; omega)
  have hw1' := hw1.symm
  have hw2' := hw2.symm
  have hw3' := hw3.symm
  have hw4' := hw4.symm
  have HFO := Lib.hid h
  unfold big at hs
  have hpl := deedPos_lt hd
  have hdl := deedNew_len hf hd
  obtain ⟨q, hq⟩ : ∃ q, q = deedPos d := ⟨_, rfl⟩
  obtain ⟨X, hX⟩ : ∃ X, X = deedNew f.bl d := ⟨_, rfl⟩
  have cD := Lib.hid (fun W (hW : Below w.heap.size w W) => deedBytes_any f.a f.c f.bl d W (h.row.below hW) hf hd)
  rw [← hq, ← hX] at cD
  rw [← hX] at hdl
  rw [← hq] at hpl
  obtain ⟨s0, hs0⟩ : ∃ s, s = f.bl[q]'hpl := ⟨_, rfl⟩
  have hs0' : f.bl.getD q ⟨#[]⟩ = s0 := by rw [hs0, List.getD_eq_getElem?_getD, List.getElem?_eq_getElem hpl]; rfl
  have hsz : s0.size = 128 := by rw [hs0]; exact (flErr_ok.1 hf).2 _ (List.getElem_mem hpl)
  have HRF := Lib.hid (show tornL f.bl d (bytesOf s) = f.bl.set q (ofBytes (mixL (bytesOf s0) X (keepP d (bytesOf s)))) by
    rw [torn_ref _ hf hd]; unfold tornRef; rw [← hq, ← hX, hs0'])
  have HS0 := Lib.hid hs0
  have HXL := Lib.hid hdl
  have hpl' : (q : Int) < f.bl.length := by omega
  clear hw1 hw2 hw3 hw4 hb1 hb2 hb3 hb4 hb24 hz1 hz2 hz3 hz4 f0 d0 d1 d2 hR h hf hd hq hX hs0 hs0' hdl
  have hkk : d.kind = 1 ∨ d.kind = 2 := by
    rcases ded_place HD.out with ⟨hk, _⟩ | ⟨hk, _⟩
    · exact .inl hk
    · exact .inr hk
  go_enter Try.func20, Try.ntmps20
  go_upto_region 3 with (first
    | (at_builtin; refine append_texts w4 rfl (.tmp 13) (.tmp 15) rfl w3.heap.size (.slice (some ⟨w3.heap.size, 0, none⟩) 0 0) [] rfl HO4.out f.a f.c f.bl rfl HT4.out.row HLen.out HB34.out.size ?_; intro v5 w5 ho5 hb5 _; obtain ⟨A5, c5, rfl, hr5, hc5⟩ := ho5.form
       rw [List.nil_append] at ho5 hc5
       obtain ⟨w6, hw6⟩ : ∃ x, x = w5.alloc (.cells #[.slice A5 f.bl.length c5] 24) := ⟨_, rfl⟩
       obtain ⟨y6, hY6, hz6, hb6⟩ := box_new hw6
       have hw6' := hw6.symm
       have hs45 := hb5.size
       have hb46 := hb5.trans (hb6.mono (by have := HZ.out; omega))
       have HB46 := Lib.hid (show Below w3.heap.size w4 w6 from hb46)
       have k6 := (hb46.cell (p := ⟨w.heap.size, 0, none⟩) (by have := HZ.out; simp; omega)).trans k0
       have e0 := (hb46.cell (p := ⟨w1.heap.size, 0, none⟩) (by have := HZ.out; simp; omega)).trans x0
       have e1 := (hb46.cell (p := ⟨w1.heap.size, 1, none⟩) (by have := HZ.out; simp; omega)).trans x1
       have e2 := (hb46.cell (p := ⟨w1.heap.size, 2, none⟩) (by have := HZ.out; simp; omega)).trans x2
       have HW6 := Lib.hid (HB4.out.trans (hb46.mono (by have := HZ.out; omega)))
       have HO6 := Lib.hid (ho5.below hb6 (Nat.le_refl _))
       have HY6 := Lib.hid hY6
       have HR6 := Lib.hid ((hb46.block _ (by have := HZ.out; omega)).trans HR4.out)
       have HS6 := Lib.hid (show w3.heap.size ≤ w5.heap.size ∧ w5.heap.size < w6.heap.size by have := HZ.out; omega)
       have cE := Lib.hid (cD.out w6 HW6.out)
       clear hw6 hY6 hz6 hb6 hb5 hb46 hs45 ho5 hr5 x0 x1 x2 k0)
    | (go_at_call 38; refine (cE.out).mono ?_; rintro e w7 ⟨hb7, g, cap, rfl, hg, hB7⟩
       have HB7 := Lib.hid hb7
       have HBY := Lib.hid hB7
       have HG := Lib.hid hg
       have HW7 := Lib.hid (HW6.out.trans (hb7.mono HW6.out.size))
       have hwl : w.heap.size < w6.heap.size := by have := HZ.out; have := HS6.out; omega
       have hwl1 : w1.heap.size < w6.heap.size := by have := HZ.out; have := HS6.out; omega
       clear hb7 hB7 hg))
  go_wp2_with fail
  go_loopw [10] (fun i wr => ∃ j : Nat, j ≤ 128 ∧ i = .int .i64 j ∧ BytesAt wr g (midM (bytesOf s0) X (keepP d (bytesOf s)) j) ∧ Below w6.heap.size w6 wr) (fun i _ => 128 - (intOf i).toNat)
  case atStart => exact ⟨0, by omega, rfl, by rw [midM_zero]; exact HBY.out, HB7.out⟩
  case round =>
    obtain ⟨j, hj, rfl, hB, hb⟩ := hrel
    have k7 := (hb.cell (p := ⟨w.heap.size, 0, none⟩) hwl).trans k6
    by_cases hlt : j < 128
    · have hlt' : (j : Int) < 128 := by omega
      have hjl : j < (midM (bytesOf s0) X (keepP d (bytesOf s)) j).length := by rw [midM_length, HXL.out]; exact hlt
      have hgx := hB.cellD j hjl
      have hgf := hB.free j hjl
      rw [midM_get] at hgx
      have g0 := (hb.cell (p := ⟨w1.heap.size, 0, none⟩) hwl1).trans e0
      obtain ⟨ad, hA, hab, ht0⟩ := text_at HFO.out.row.row (HW6.out.trans (hb.mono HW6.out.size)) q hpl
      rw [← HS0.out] at ht0
      have ix := run_index_byte s0 j (by rw [hsz]; exact hlt)
      have hx8 : ((bytesOf s0).getD j 0).toNat < 256 := u8_lt_ _
      have hy8 : (X.getD j 0).toNat < 256 := u8_lt_ _
      obtain ⟨x, hx⟩ : ∃ x, x = ((bytesOf s0).getD j 0).toNat := ⟨_, rfl⟩
      obtain ⟨y, hy⟩ : ∃ x, x = (X.getD j 0).toNat := ⟨_, rfl⟩
      rw [← hx] at ix hx8
      rw [← hy] at hgx hy8
      obtain ⟨kp, hkp⟩ : ∃ kp, kp = keepP d (bytesOf s) j := ⟨_, rfl⟩
      have hkp8 : kp < 256 := by rw [hkp]; exact keepP_lt ..
      have HSTEP := Lib.hid (midM_step (bytesOf s0) X (keepP d (bytesOf s)) j)
      have HSTEP' := HSTEP.out
      rw [← hx, ← hy, ← hkp] at HSTEP'
      have hm8 := mixB_lt x y kp hx8 hy8
      have cM := Lib.hid (fun W => mix_any x y kp W hx8 hy8 hkp8)
      obtain ⟨m, hm⟩ : ∃ m, m = mixB x y kp := ⟨_, rfl⟩
      rw [← hm] at cM HSTEP' hm8
      have HSET := Lib.hid (show BytesAt (wr.setCell ⟨g, j, none⟩ (.int .u8 (m : Int))) g (midM (bytesOf s0) X (keepP d (bytesOf s)) (j + 1)) ∧ Below w6.heap.size w6 (wr.setCell ⟨g, j, none⟩ (.int .u8 (m : Int))) from
        ⟨by rw [← HSTEP']; exact hB.setN j m hm8, hb.setCell (p := ⟨g, j, none⟩) HG.out _⟩)
      have HKP := Lib.hid hkp
      clear HSTEP HSTEP' hm hm8 hx hy hkp hB hjl hx8 hy8
      rw [hA] at k7
      clear hA
      have hne : bytesOf s = [] ↔ s.size = 0 := by rw [← bytes_length]; exact List.length_eq_zero_iff.symm
      rcases hkk with k1 | k2
      · rw [k1] at g0
        rw [keepP_prog k1] at HKP
        by_cases hz : s.size = 0
        · rw [if_pos (hne.2 hz)] at HKP
          obtain rfl : s = ⟨#[]⟩ := by
            obtain ⟨x⟩ := s
            rw [Array.eq_empty_of_size_eq_zero hz]
          rw [HKP.out, show ((255 : Nat) : Int) = 255 from rfl] at cM
          have HK1 := Lib.hid k1
          clear hne hz k1
          go_wp2_with (go_at_call 39; with_reducible refine (cM.out _).mono ?_; rintro e w' ⟨rfl, rfl⟩)
          go_roundw
          case rel => exact ⟨j + 1, by omega, by go_num, HSET.out.1, HSET.out.2⟩
          case measure => (simp [intOf]; try omega)
        · rw [if_neg (fun h => hz (hne.1 h))] at HKP
          have hpos : 0 < s.size := by omega
          have hsn : (s.toList == (⟨#[]⟩ : ByteArray).toList) = false := str_ne (by rintro rfl; exact hz rfl)
          have hse : s.toList.isEmpty = false := by
            cases h : s.toList with
            | nil => rw [h, show (⟨#[]⟩ : ByteArray).toList = [] from by kernel_rfl] at hsn; exact absurd hsn (by decide)
            | cons a l => rfl
          have i0 : ∀ W, (Instr.index 9 (.string s) (.int .i64 0)).run Try.prog W = .ok (.int .u8 (kp : Int)) W := fun W => by
            rw [HKP.out]; exact run_index_byte s 0 hpos W
          have HK1 := Lib.hid k1
          clear hne hz k1 hpos
          go_wp2_with (go_at_call 39; with_reducible refine (cM.out _).mono ?_; rintro e w' ⟨rfl, rfl⟩)
          go_roundw
          case rel => exact ⟨j + 1, by omega, by go_num, HSET.out.1, HSET.out.2⟩
          case measure => (simp [intOf]; try omega)
      · rw [k2] at g0
        rw [keepP_erase k2, bytes_length] at HKP
        by_cases hi : j < s.size
        · rw [if_pos hi] at HKP
          have hi' : (j : Int) < s.size := by omega
          have hp8 : ((bytesOf s).getD j 0).toNat < 256 := u8_lt_ _
          have i0 := run_index_byte s j hi
          have HKP' := HKP.out
          obtain ⟨p, hp⟩ : ∃ p, p = ((bytesOf s).getD j 0).toNat := ⟨_, rfl⟩
          rw [← hp] at hp8 i0 HKP'
          have hsub : IntKind.u8.wrap (255 - (p : Int)) = (kp : Int) := by rw [IntKind.wrap_u8', HKP']; omega
          have HK1 := Lib.hid k2
          clear hne k2 HKP' hp
          go_wp2_with (go_at_call 39; go_loud ((with_reducible refine (cM.out _).mono ?_); rintro e w' ⟨rfl, rfl⟩))
          go_roundw
          case rel => exact ⟨j + 1, by omega, by go_num, HSET.out.1, HSET.out.2⟩
          case measure => (simp [intOf]; try omega)
        · rw [if_neg hi] at HKP
          have hi' : ¬ ((j : Int) < s.size) := by omega
          rw [HKP.out, show ((255 : Nat) : Int) = 255 from rfl] at cM
          have HK1 := Lib.hid k2
          clear hne k2
          go_wp2_with (go_at_call 39; with_reducible refine (cM.out _).mono ?_; rintro e w' ⟨rfl, rfl⟩)
          go_roundw
          case rel => exact ⟨j + 1, by omega, by go_num, HSET.out.1, HSET.out.2⟩
          case measure => (simp [intOf]; try omega)
    · obtain rfl : j = 128 := by omega
      obtain ⟨w8, rfl⟩ : ∃ W : World, W = wr := ⟨_, rfl⟩
      have hend : midM (bytesOf s0) X (keepP d (bytesOf s)) 128 = mixL (bytesOf s0) X (keepP d (bytesOf s)) := by rw [← HXL.out]; exact midM_all ..
      rw [hend] at hB
      obtain ⟨Y, hY⟩ : ∃ Y, Y = mixL (bytesOf s0) X (keepP d (bytesOf s)) := ⟨_, rfl⟩
      have hYl : Y.length = 128 := by rw [hY]; unfold mixL; rw [List.length_mapIdx]; exact HXL.out
      rw [← hY] at hB
      have hback := str_of_bytes w8 g 128 cap Y hYl hB
      obtain ⟨t, ht⟩ : ∃ t, t = ofBytes Y := ⟨_, rfl⟩
      rw [← ht] at hback
      have HE := Lib.hid (show tornL f.bl d (bytesOf s) = f.bl.set q t by rw [HRF.out, ht, hY])
      have hY8 := (hb.block _ HS6.out.2).trans HY6.out
      have y8 := cell_of_heap hY8 0
      have yf8 := free_of_heap hY8 0
      simp only [List.getElem?_toArray, List.getElem?_cons_zero] at y8
      have hO8 := HO6.out.below hb (Nat.le_refl _)
      obtain ⟨g', rfl, hg', hgl, hc8, hf8, hs8⟩ := hO8.at_ rfl q hpl
      have HO9 := Lib.hid (hs8 t)
      have hne8 := hO8.ne hY8 (by decide)
      have hgne : g' ≠ w5.heap.size := fun e => hne8 (by rw [e]; rfl)
      obtain ⟨w9, hw9⟩ : ∃ x, x = w8.setCell ⟨g', q, none⟩ (.string t) := ⟨_, rfl⟩
      have hw9' := hw9.symm
      rw [hw9'] at HO9
      have y9 : w9.cell? ⟨w5.heap.size, 0, none⟩ = some (.slice (some ⟨g', 0, none⟩) f.bl.length c5) := by
        rw [hw9, World.cell?_setCell_other _ _ _ _ (by intro h; injection h with h; omega)]; exact y8
      have hb9 : Below w3.heap.size w8 w9 := hw9 ▸ (Below.refl _ _).setCell (p := ⟨g', q, none⟩) hg' _
      have hR9 : w9.heap[w2.heap.size]? = some (.cells #[.slice none 0 0] 24 (0, 0)) := by
        rw [hb9.block _ (by have := HZ.out; omega), hb.block _ (by have := HZ.out; have := HS6.out; omega)]; exact HR6.out
      have v0 := cell_of_heap hR9 0
      have vf := free_of_heap hR9 0
      simp only [List.getElem?_toArray, List.getElem?_cons_zero] at v0
      have HR9 := Lib.hid hR9
      have HB9 := Lib.hid (HW6.out.trans ((hb.mono HW6.out.size).trans (hb9.mono (by have := HZ.out; omega))))
      clear hw9 hB hb hend hY hYl ht hY8 hO8 hs8 hb9 hR9 hne8
      go_wp2_with fail
      have hR10 : (w9.setCell ⟨w2.heap.size, 0, none⟩ (.slice (some ⟨g', 0, none⟩) f.bl.length c5)).heap[w2.heap.size]? = some (.cells #[.slice (some ⟨g', 0, none⟩) f.bl.length c5] 24 (0, 0)) :=
        heap_setCell_same w9 w2.heap.size 0 _ _ (.slice (some ⟨g', 0, none⟩) f.bl.length c5) HR9.out
      refine bodyPost_ret (results_cell_row rfl _ _ w2.heap.size 24 _ (0, 0) _ rfl hR10 Try.underlying24 rfl Try.sizeFlash) rfl ?_
      refine ⟨HB9.out.setCell (p := ⟨w2.heap.size, 0, none⟩) (by have := HZ.out; simp; try omega) _, some ⟨g', 0, none⟩, c5, rfl, hc5, ?_⟩
      rw [HE.out]
      exact (HO9.out.set_other HR9.out (by decide) 0 _).more (by have := HZ.out; omega)

end Go.Proofs.Ytpmjgkngkaleeaa
