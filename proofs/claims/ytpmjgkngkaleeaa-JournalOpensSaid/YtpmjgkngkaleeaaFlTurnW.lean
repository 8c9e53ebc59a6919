import Derived.Test.YtpmjgkngkaleeaaFlTextW
import Derived.Test.YtpmjgkngkaleeaaFlBytesW
import Derived.Deep.RegionWith
import Derived.Deep.CutBlock
import Derived.Deep.CutRange
/- A deed done to a flash, as far as its parts say (chapter K): flash.turned. -/
namespace Go.Proofs.Ytpmjgkngkaleeaa
open Go.RowKit

/-- a block more: what lay lies, and the new one's cells -/
theorem box_new {w w5 : World} {v : Value} {t : TypeId} (h : w5 = w.alloc (.cells #[v] t)) : w5.cell? ⟨w.heap.size, 0, none⟩ = some v ∧ w5.heap[w.heap.size]? = some (.cells #[v] t (0, 0)) ∧ w5.heap.size = w.heap.size + 1 ∧ Below w.heap.size w w5 := by
  obtain ⟨h1, h2, h3⟩ := box1 h
  exact ⟨h1, by rw [h]; exact heap_alloc_new _ _, h2, h3⟩
theorem Try.sizeFlash : (Try.prog.info? 24).map (·.size) = some 1 := by kernel_rfl
/-- bytes, of which those below j are erased as far as p says -/
def midB (l : List UInt8) (p : Nat → Nat) (j : Nat) : List UInt8 := l.mapIdx fun i x => if i < j then UInt8.ofNat (x.toNat ||| p i) else x
theorem midB_length (l : List UInt8) (p : Nat → Nat) (j : Nat) : (midB l p j).length = l.length := by simp [midB]
theorem midB_zero (l : List UInt8) (p : Nat → Nat) : midB l p 0 = l := by
  apply List.ext_getElem
  · simp [midB]
  · intro i h1 h2; simp [midB]
theorem midB_all (l : List UInt8) (p : Nat → Nat) : midB l p l.length = eraseB l p := by
  apply List.ext_getElem
  · simp [midB, eraseB]
  · intro i h1 h2
    have : i < l.length := by simpa [midB] using h1
    simp [midB, eraseB, this]
theorem midB_get (l : List UInt8) (p : Nat → Nat) (j : Nat) : (midB l p j).getD j 0 = l.getD j 0 := by
  rw [List.getD_eq_getElem?_getD, List.getD_eq_getElem?_getD]
  unfold midB
  rw [List.getElem?_mapIdx]
  cases l[j]? <;> simp
theorem midB_step (l : List UInt8) (p : Nat → Nat) (j : Nat) : (midB l p j).set j (UInt8.ofNat ((l.getD j 0).toNat ||| p j)) = midB l p (j + 1) := by
  apply List.ext_getElem
  · simp [midB]
  · intro i h1 h2
    have hi : i < l.length := by simpa [midB] using h2
    rw [List.getElem_set]
    by_cases e : j = i
    · subst e
      rw [if_pos rfl]
      simp [midB, List.getD_eq_getElem?_getD, List.getElem?_eq_getElem hi]
    · rw [if_neg e]
      simp only [midB, List.getElem_mapIdx]
      by_cases h : i < j
      · rw [if_pos h, if_pos (by omega)]
      · rw [if_neg h, if_neg (by omega)]
theorem TOwn.more {w : World} {b b' : Nat} {v : Value} {l : List ByteArray} (h : TOwn w b v l) (hb : b' ≤ b) : TOwn w b' v l := by
  refine ⟨h.1, ?_⟩
  rcases h.2 with h0 | ⟨g, cap, cur, e1, e2, e3, e4⟩
  · exact .inl h0
  · exact .inr ⟨g, cap, cur, e1, by omega, e3, e4⟩

set_option maxHeartbeats 4000000 in
set_option maxRecDepth 100000 in
theorem turned_any (A : Option Addr) (c : Nat) (bl : List ByteArray) (K P V : Int) (g : Nat) (lb : Array Value) (p : Nat → Nat) (w : World) (eg : ∀ args w, (callFunc g args).run Try.prog w = .ok (.enter g args) w)
    (h : TextsOk w A bl) (hf : flErr bl = 0) (hd : dedErr bl.length ⟨K, P, V⟩ = 0)
    (hp : ∀ i W, i < 128 → Below w.heap.size w W → Calls Try.prog g (#[.int .i64 (i : Int)] ++ lb) W fun e w' => e = .returned (.int .u8 (p i : Nat)) ∧ w' = W) (hp8 : ∀ i, p i < 256) :
    Calls Try.prog 34 #[.agg #[.slice A bl.length c], .agg #[.int .i64 K, .int .i64 P, .int .i64 V], .func (.func g) #[] lb] w fun e w' => Below w.heap.size w w' ∧ ∃ (A' : Option Addr) (c' : Nat), e = .returned (.agg #[.slice A' bl.length c']) ∧ bl.length ≤ c' ∧ TOwn w' w.heap.size (.slice A' bl.length c') (turned bl ⟨K, P, V⟩ p) := by
  obtain ⟨hln, h2⟩ := flErr_ok.1 hf
  obtain ⟨w1, hw1⟩ : ∃ w1, w1 = w.alloc (.cells #[.slice A bl.length c] 24) := ⟨_, rfl⟩
  obtain ⟨f0, hz1, hb1⟩ := box1 hw1
  obtain ⟨w2, hw2⟩ : ∃ w2, w2 = w1.alloc (.cells #[.int .i64 K, .int .i64 P, .int .i64 V] 32) := ⟨_, rfl⟩
  obtain ⟨d0, d1, d2, hz2, hb2⟩ := box3 hw2
  obtain ⟨w3, hw3⟩ : ∃ w3, w3 = w2.alloc (.cells #[.slice none 0 0] 24) := ⟨_, rfl⟩
  obtain ⟨r0, hz3, hb3⟩ := box1 hw3
  rw [hz1] at d0 d1 d2 hz2 hb2
  rw [hz2] at hz3 hb3 r0
  have k0 := (hb3.cell (p := ⟨w.heap.size, 0, none⟩) (by simp; omega)).trans ((hb2.cell (p := ⟨w.heap.size, 0, none⟩) (by simp)).trans f0)
  have HB3 := Lib.hid (hb1.trans ((hb2.mono (by omega)).trans (hb3.mono (by omega))))
  have ht3 := h.row.below HB3.out
  have cC := Lib.hid (Clone_any A bl c w3 ht3 (by omega) (by omega))
  have hR : w3.heap[w.heap.size + 1 + 1]? = some (.cells #[.slice none 0 0] 24 (0, 0)) := by
    have := heap_alloc_new w2 (.cells #[.slice none 0 0] 24)
    rw [hz2] at this
    rw [hw3]; exact this
  have HR := Lib.hid hR
  have e0 := (hb3.cell (p := ⟨w.heap.size + 1, 0, none⟩) (by simp)).trans d0
  have e1 := (hb3.cell (p := ⟨w.heap.size + 1, 1, none⟩) (by simp)).trans d1
  have e2 := (hb3.cell (p := ⟨w.heap.size + 1, 2, none⟩) (by simp)).trans d2
  have hw1' := hw1.symm
  have hw2' := hw2.symm
  have hw3' := hw3.symm
  have HZ3 := Lib.hid hz3
  have HP := Lib.hid hp
  have HP8 := Lib.hid hp8
  have H2 := Lib.hid h2
  clear hw1 hw2 hw3 hb1 hb2 hb3 f0 d0 d1 d2 r0 hz3 hR hp hp8 h2 h ht3
  rcases ded_place hd with ⟨hk, hn, hj, hP, hV0, hV⟩ | ⟨hk, hn, hP, hV⟩
  · simp only at hk hn hj hP hV0 hV
    obtain ⟨N, rfl⟩ : ∃ N : Nat, P = N := ⟨P.toNat, by omega⟩
    obtain ⟨U, rfl⟩ : ∃ U : Nat, V = U := ⟨V.toNat, by omega⟩
    subst hk
    obtain ⟨n, hn'⟩ : ∃ n, n = bl.length := ⟨_, rfl⟩
    rw [← hn'] at cC hw1' k0 hln hn ⊢
    have HN := Lib.hid hn'
    clear hd hf hV0 hj hP hn'
    obtain ⟨q, hq⟩ : ∃ q : Nat, q = N / 128 := ⟨_, rfl⟩
    obtain ⟨r, hr⟩ : ∃ r : Nat, r = N % 128 := ⟨_, rfl⟩
    have hqn : q < n := by omega
    have hr8 : r < 128 := by omega
    have q1 : N / 128 = q := hq.symm
    have q2 : (N : Int) / 128 = q := by omega
    have r1 : N % 128 = r := hr.symm
    have r2 : (N : Int) % 128 = r := by omega
    have r3 : (N : Int).tmod 128 = r := by rw [Int.tmod_eq_emod_of_nonneg (by omega)]; exact r2
    obtain ⟨s0, hs0⟩ : ∃ s, s = bl.getD q ⟨#[]⟩ := ⟨_, rfl⟩
    have hsz : s0.size = 128 := by rw [hs0]; exact H2.out _ (getD_mem (by rw [← HN.out]; exact hqn))
    obtain ⟨x, hx⟩ : ∃ x : Nat, x = ((bytesOf s0).getD r 0).toNat := ⟨_, rfl⟩
    have hx8 : x < 256 := by rw [hx]; exact u8_lt_ _
    have hU8 : U < 256 := by omega
    have qU : IntKind.u8.wrap (U : Int) = U := by rw [IntKind.wrap_u8']; omega
    obtain ⟨m1, hm1⟩ : ∃ m, m = x &&& (255 - U) := ⟨_, rfl⟩
    have b1 := u8_andNot_nat x U hx8 hU8
    rw [← hm1] at b1
    have hm18 : m1 < 256 := by rw [hm1]; exact and_lt hx8
    obtain ⟨p0, hp0⟩ : ∃ y, y = p 0 := ⟨_, rfl⟩
    have hp08 : p0 < 256 := by rw [hp0]; exact HP8.out 0
    have h00 : ((0 : Nat) : Int) = 0 := rfl
    have cP := Lib.hid (fun W => HP.out 0 W (by omega))
    rw [h00] at cP
    clear h00
    rw [← hp0] at cP
    obtain ⟨m2, hm2⟩ : ∃ m, m = m1 &&& p0 := ⟨_, rfl⟩
    have b2 := u8_and_nat m1 p0 hm18 hp08
    rw [← hm2] at b2
    have hm28 : m2 < 256 := by rw [hm2]; exact and_lt hm18
    obtain ⟨m3, hm3⟩ : ∃ m, m = x &&& (255 - m2) := ⟨_, rfl⟩
    have b3 := u8_andNot_nat x m2 hx8 hm28
    rw [← hm3] at b3
    have hm38 : m3 < 256 := by rw [hm3]; exact and_lt hx8
    have HM := Lib.hid (show turnB x U (p 0) = m3 by rw [hm3, hm2, hm1, hp0]; rfl)
    obtain ⟨t, ht⟩ : ∃ t, t = ofBytes ((bytesOf s0).set r (UInt8.ofNat m3)) := ⟨_, rfl⟩
    have HT := Lib.hid (show turned bl ⟨1, N, U⟩ p = bl.set q t by
      unfold turned progB
      rw [if_pos rfl, ht, ← HM.out, hx, hs0]
      simp only [q2, r2, Int.toNat_natCast])
    have HTT := Lib.hid ht
    clear ht
    obtain ⟨F, C, hFC⟩ := bytes_of_str s0
    have hcv := fun W => (hFC W).1
    rw [hsz] at hcv
    have HFC := Lib.hid (fun W => (hFC W).2)
    clear hFC
    have HQ := Lib.hid hq
    have HRR := Lib.hid hr
    have HS0 := Lib.hid hs0
    have HX := Lib.hid hx
    have HX8 := Lib.hid hx8
    have HM38 := Lib.hid hm38
    have hbl := bytes_length s0
    rw [hsz] at hbl
    have HBL := Lib.hid hbl
    clear hq hr hs0 hx hx8 hU8 hm1 hm18 hp0 hp08 hm2 hm28 hm3 hm38 hbl
    go_enter Try.func34, Try.ntmps34
    go_upto_region 5 with (
      go_at_call 44
      refine (cC.out).mono ?_
      rintro e w4 ⟨hb4, A4, c4, rfl, hc4, ho⟩
      obtain ⟨g4, rfl, hg4, hl4, hx4, -, -⟩ := ho.at_ HN.out q hqn
      rw [← HS0.out] at hx4
      obtain ⟨w5, hw5⟩ : ∃ x, x = w4.alloc (.cells #[.slice (some ⟨g4, 0, none⟩) n c4] 24) := ⟨_, rfl⟩
      obtain ⟨y0, hY5, hz5, hb5⟩ := box_new hw5
      have hw5' := hw5.symm
      have hz3 := HZ3.out
      have hz34 := hb4.size
      have HB5 := Lib.hid (hb4.trans (hb5.mono hz34))
      have x0 := (HB5.out.cell (p := ⟨w.heap.size + 1, 0, none⟩) (by simp; omega)).trans e0
      have x1 := (HB5.out.cell (p := ⟨w.heap.size + 1, 1, none⟩) (by simp; omega)).trans e1
      have hx5 := (hb5.cell (p := ⟨g4, q, none⟩) hl4).trans hx4
      have HO5 := Lib.hid (ho.below hb5 (Nat.le_refl _))
      have HY5 := Lib.hid hY5
      have HZ5 := Lib.hid hz5
      obtain ⟨hcap, hB6, hb6⟩ := HFC.out w5
      obtain ⟨w6, hw6⟩ : ∃ x, x = F w5 := ⟨_, rfl⟩
      rw [← hw6] at hB6 hb6
      have hw6' := hw6.symm
      have hgx := hB6.cellD r (by rw [HBL.out]; exact hr8)
      rw [← HX.out] at hgx
      have hgf := hB6.free r (by rw [HBL.out]; exact hr8)
      have z1 := (hb6.cell (p := ⟨w.heap.size + 1, 1, none⟩) (by simp; omega)).trans x1
      have z2 := (hb6.cell (p := ⟨w.heap.size + 1, 2, none⟩) (by simp; omega)).trans ((HB5.out.cell (p := ⟨w.heap.size + 1, 2, none⟩) (by simp; omega)).trans e2)
      have HB6 := Lib.hid hB6
      have Hb6 := Lib.hid hb6
      clear hw5 hz3 hz5 hb4 hb5 hY5 ho hx4 hw6 hB6 hb6)
    have HBW := Lib.hid (HB3.out.trans ((HB5.out.trans (Hb6.out.mono (by have := HB5.out.size; omega))).mono (by have := HZ3.out; omega)))
    have HBD := Lib.hid (show Below w.heap.size w w6.drew from below_drewN HBW.out 1)
    have hri : (r : Int) < 128 := by omega
    have cP6 := Lib.hid (cP.out _ HBD.out)
    have HSET := Lib.hid (show BytesAt (w6.drew.setCell ⟨w5.heap.size, r, none⟩ (.int .u8 (m3 : Int))) w5.heap.size ((bytesOf s0).set r (UInt8.ofNat m3)) ∧ Below w5.heap.size w5 (w6.drew.setCell ⟨w5.heap.size, r, none⟩ (.int .u8 (m3 : Int))) from
      ⟨(BytesAt.kept (w' := w6.drew) HB6.out rfl).setN r m3 HM38.out, (below_drewN Hb6.out 1).setCell (p := ⟨w5.heap.size, r, none⟩) (Nat.le_refl _) _⟩)
    go_cut [9] from 33 to 47 (fun _ wx => BytesAt wx w5.heap.size ((bytesOf s0).set r (UInt8.ofNat m3)) ∧ Below w5.heap.size w5 wx)
    case first =>
      go_region_with (with_reducible refine (cP6.out).mono ?_; rintro e w' ⟨rfl, rfl⟩)
      all_goals (go_wp2_with fail; go_meet; exact HSET.out)
    case rest =>
      obtain ⟨w7, rfl⟩ : ∃ W : World, W = wc := ⟨_, rfl⟩
      obtain ⟨hB7, hb7⟩ := hcut
      have hz3 := HZ3.out
      have hz5 := HZ5.out
      have y7 := (hb7.cell (p := ⟨w4.heap.size, 0, none⟩) (by simp; omega)).trans y0
      have x7 := (hb7.cell (p := ⟨w.heap.size + 1, 1, none⟩) (by simp; omega)).trans x1
      have hback := str_of_bytes w7 w5.heap.size 128 (C w5) _ (by rw [List.length_set]; exact HBL.out) hB7
      rw [← HTT.out] at hback
      obtain ⟨g', hg', _, _, hc7, hf7, hs7⟩ := (HO5.out.below hb7 (Nat.le_refl _)).at_ HN.out q hqn
      obtain rfl : g4 = g' := by injection hg' with h; injection h
      obtain ⟨w8, hw8⟩ : ∃ x, x = w7.setCell ⟨g4, q, none⟩ (.string t) := ⟨_, rfl⟩
      have hw8' := hw8.symm
      have hO8 := hs7 t
      rw [hw8'] at hO8
      have y8 : w8.cell? ⟨w4.heap.size, 0, none⟩ = some (.slice (some ⟨g4, 0, none⟩) n c4) := by
        rw [hw8, World.cell?_setCell_other _ _ _ _ (by intro h; injection h with h; omega)]; exact y7
      have hb8 : Below w3.heap.size w7 w8 := hw8 ▸ (Below.refl _ _).setCell (p := ⟨g4, q, none⟩) hg4 _
      have hR8 : w8.heap[w.heap.size + 1 + 1]? = some (.cells #[.slice none 0 0] 24 (0, 0)) := by
        rw [hb8.block _ (by omega), hb7.block _ (by omega), HB5.out.block _ (by omega)]; exact HR.out
      have v0 := cell_of_heap hR8 0
      have vf := free_of_heap hR8 0
      simp only [List.getElem?_toArray, List.getElem?_cons_zero] at v0
      have HR8 := Lib.hid hR8
      have HO8 := Lib.hid hO8
      have HB8 := Lib.hid (HB3.out.trans ((HB5.out.mono (by omega)).trans ((hb7.mono (by omega)).trans (hb8.mono (by omega)))))
      clear hw8 hB7 hb7 hb8 hR8 hO8 hs7 hz3 hz5
      go_wp2_with fail
      have hR9 : (w8.setCell ⟨w.heap.size + 1 + 1, 0, none⟩ (.slice (some ⟨g4, 0, none⟩) n c4)).heap[w.heap.size + 1 + 1]? = some (.cells #[.slice (some ⟨g4, 0, none⟩) n c4] 24 (0, 0)) :=
        heap_setCell_same w8 (w.heap.size + 1 + 1) 0 _ _ (.slice (some ⟨g4, 0, none⟩) n c4) HR8.out
      refine bodyPost_ret (results_cell_row rfl _ _ (w.heap.size + 1 + 1) 24 _ (0, 0) _ rfl hR9 Try.underlying24 rfl Try.sizeFlash) rfl ?_
      refine ⟨HB8.out.setCell (p := ⟨w.heap.size + 1 + 1, 0, none⟩) (by simp; omega) _, _, _, rfl, hc4, ?_⟩
      rw [HT.out]
      have hz3 := HZ3.out
      exact TOwn.more (ownsRow_setCell_other HO8.out (fun h => by simp [Value.ownBlock] at h; omega) _) (by omega)
  · simp only at hk hn hP hV
    obtain ⟨q, rfl⟩ : ∃ N : Nat, P = N := ⟨P.toNat, by omega⟩
    subst hk hV
    obtain ⟨n, hn'⟩ : ∃ n, n = bl.length := ⟨_, rfl⟩
    rw [← hn'] at cC hw1' k0 hln hn ⊢
    have HN := Lib.hid hn'
    clear hd hf hP hn'
    have hqn : q < n := by omega
    obtain ⟨s0, hs0⟩ : ∃ s, s = bl.getD q ⟨#[]⟩ := ⟨_, rfl⟩
    have hsz : s0.size = 128 := by rw [hs0]; exact H2.out _ (getD_mem (by rw [← HN.out]; exact hqn))
    obtain ⟨t, ht⟩ : ∃ t, t = ofBytes (eraseB (bytesOf s0) p) := ⟨_, rfl⟩
    have HT := Lib.hid (show turned bl ⟨2, q, 0⟩ p = bl.set q t by
      unfold turned
      rw [if_neg (show ¬ ((2 : Int) = 1) by decide), ht, hs0]
      simp only [Int.toNat_natCast])
    have HTT := Lib.hid ht
    clear ht
    obtain ⟨F, C, hFC⟩ := bytes_of_str s0
    have hcv := fun W => (hFC W).1
    rw [hsz] at hcv
    have HFC := Lib.hid (fun W => (hFC W).2)
    clear hFC
    have HS0 := Lib.hid hs0
    have hbl := bytes_length s0
    rw [hsz] at hbl
    have HBL := Lib.hid hbl
    clear hs0 hbl hn
    go_enter Try.func34, Try.ntmps34
    go_wp2_with (
      go_at_call 44
      refine (cC.out).mono ?_
      rintro e w4 ⟨hb4, A4, c4, rfl, hc4, ho⟩
      obtain ⟨g4, rfl, hg4, hl4, hx4, -, -⟩ := ho.at_ HN.out q hqn
      rw [← HS0.out] at hx4
      obtain ⟨w5, hw5⟩ : ∃ x, x = w4.alloc (.cells #[.slice (some ⟨g4, 0, none⟩) n c4] 24) := ⟨_, rfl⟩
      obtain ⟨y0, hY5, hz5, hb5⟩ := box_new hw5
      have hw5' := hw5.symm
      have hz3 := HZ3.out
      have hz34 := hb4.size
      have HB5 := Lib.hid (hb4.trans (hb5.mono hz34))
      have x0 := (HB5.out.cell (p := ⟨w.heap.size + 1, 0, none⟩) (by simp; omega)).trans e0
      have x1 := (HB5.out.cell (p := ⟨w.heap.size + 1, 1, none⟩) (by simp; omega)).trans e1
      have hx5 := (hb5.cell (p := ⟨g4, q, none⟩) hl4).trans hx4
      have HO5 := Lib.hid (ho.below hb5 (Nat.le_refl _))
      have HY5 := Lib.hid hY5
      have HZ5 := Lib.hid hz5
      obtain ⟨hcap, hB6, hb6⟩ := HFC.out w5
      obtain ⟨w6, hw6⟩ : ∃ x, x = F w5 := ⟨_, rfl⟩
      rw [← hw6] at hB6 hb6
      have hw6' := hw6.symm
      have HB6 := Lib.hid hB6
      have Hb6 := Lib.hid hb6
      clear hw5 hz3 hz5 hb4 hb5 hY5 ho hx4 hw6 hB6 hb6)
    have HBW := Lib.hid (HB3.out.trans (HB5.out.mono (by have := HZ3.out; omega)))
    go_loopw [66] (fun i wr => ∃ j : Nat, j ≤ 128 ∧ i = .int .i64 j ∧ BytesAt wr w5.heap.size (midB (bytesOf s0) p j) ∧ Below w5.heap.size w5 wr) (fun i _ => 128 - (intOf i).toNat)
    case atStart => exact ⟨0, by omega, rfl, by rw [midB_zero]; exact HB6.out, Hb6.out⟩
    case round =>
      obtain ⟨j, hj, rfl, hB, hb⟩ := hrel
      by_cases hlt : j < 128
      · have hlt' : (j : Int) < 128 := by omega
        have hjl : j < (midB (bytesOf s0) p j).length := by rw [midB_length, HBL.out]; exact hlt
        have hgx := hB.cellD j hjl
        have hgf := hB.free j hjl
        rw [midB_get] at hgx
        obtain ⟨x, hx⟩ : ∃ x : Nat, x = ((bytesOf s0).getD j 0).toNat := ⟨_, rfl⟩
        rw [← hx] at hgx
        have hx8 : x < 256 := by rw [hx]; exact u8_lt_ _
        have cJ := Lib.hid (HP.out j wr.drew hlt (below_drewN (HBW.out.trans (hb.mono (HBW.out.size))) 1))
        obtain ⟨pj, hpj⟩ : ∃ y, y = p j := ⟨_, rfl⟩
        have hp8 : pj < 256 := by rw [hpj]; exact HP8.out j
        rw [← hpj] at cJ
        obtain ⟨m, hm⟩ : ∃ m, m = x ||| pj := ⟨_, rfl⟩
        have b1 := u8_or_nat x pj hx8 hp8
        rw [← hm] at b1
        have hm8 : m < 256 := by rw [hm]; exact Nat.or_lt_two_pow (n := 8) hx8 hp8
        have HSET := Lib.hid (show BytesAt (wr.drew.setCell ⟨w5.heap.size, j, none⟩ (.int .u8 (m : Int))) w5.heap.size (midB (bytesOf s0) p (j + 1)) ∧ Below w5.heap.size w5 (wr.drew.setCell ⟨w5.heap.size, j, none⟩ (.int .u8 (m : Int))) from
          ⟨by have h := (BytesAt.kept (w' := wr.drew) hB rfl).setN j m hm8; rw [hm, hx, hpj, midB_step] at h; rw [hm, hx, hpj]; exact h, (below_drewN hb 1).setCell (p := ⟨w5.heap.size, j, none⟩) (Nat.le_refl _) _⟩)
        clear hB hb hjl hx hx8 hpj hp8 hm hm8
        go_upto_region 12 with fail
        go_region_with (with_reducible refine (cJ.out).mono ?_; rintro e w' ⟨rfl, rfl⟩)
        all_goals (
          go_wp2_with fail
          go_roundw
          case rel => exact ⟨j + 1, by omega, by go_num, HSET.out.1, HSET.out.2⟩
          case measure => (simp [intOf]; try omega))
      · obtain rfl : j = 128 := by omega
        obtain ⟨w7, rfl⟩ : ∃ W : World, W = wr := ⟨_, rfl⟩
        have hB7 := hB
        have hb7 := hb
        rw [show midB (bytesOf s0) p 128 = eraseB (bytesOf s0) p from by rw [← HBL.out, midB_all]] at hB7
        have hz3 := HZ3.out
        have hz5 := HZ5.out
        have y7 := (hb7.cell (p := ⟨w4.heap.size, 0, none⟩) (by simp; omega)).trans y0
        have x7 := (hb7.cell (p := ⟨w.heap.size + 1, 1, none⟩) (by simp; omega)).trans x1
        have hback := str_of_bytes w7 w5.heap.size 128 (C w5) _ (by rw [eraseB_length]; exact HBL.out) hB7
        rw [← HTT.out] at hback
        obtain ⟨g', hg', _, _, hc7, hf7, hs7⟩ := (HO5.out.below hb7 (Nat.le_refl _)).at_ HN.out q hqn
        obtain rfl : g4 = g' := by injection hg' with h; injection h
        obtain ⟨w8, hw8⟩ : ∃ x, x = w7.setCell ⟨g4, q, none⟩ (.string t) := ⟨_, rfl⟩
        have hw8' := hw8.symm
        have hO8 := hs7 t
        rw [hw8'] at hO8
        have y8 : w8.cell? ⟨w4.heap.size, 0, none⟩ = some (.slice (some ⟨g4, 0, none⟩) n c4) := by
          rw [hw8, World.cell?_setCell_other _ _ _ _ (by intro h; injection h with h; omega)]; exact y7
        have hb8 : Below w3.heap.size w7 w8 := hw8 ▸ (Below.refl _ _).setCell (p := ⟨g4, q, none⟩) hg4 _
        have hR8 : w8.heap[w.heap.size + 1 + 1]? = some (.cells #[.slice none 0 0] 24 (0, 0)) := by
          rw [hb8.block _ (by omega), hb7.block _ (by omega), HB5.out.block _ (by omega)]; exact HR.out
        have v0 := cell_of_heap hR8 0
        have vf := free_of_heap hR8 0
        simp only [List.getElem?_toArray, List.getElem?_cons_zero] at v0
        have HR8 := Lib.hid hR8
        have HO8 := Lib.hid hO8
        have HB8 := Lib.hid (HB3.out.trans ((HB5.out.mono (by omega)).trans ((hb7.mono (by omega)).trans (hb8.mono (by omega)))))
        clear hw8 hB hb hB7 hb7 hb8 hR8 hO8 hs7 hz3 hz5
        go_wp2_with fail
        have hR9 : (w8.setCell ⟨w.heap.size + 1 + 1, 0, none⟩ (.slice (some ⟨g4, 0, none⟩) n c4)).heap[w.heap.size + 1 + 1]? = some (.cells #[.slice (some ⟨g4, 0, none⟩) n c4] 24 (0, 0)) :=
          heap_setCell_same w8 (w.heap.size + 1 + 1) 0 _ _ (.slice (some ⟨g4, 0, none⟩) n c4) HR8.out
        refine bodyPost_ret (results_cell_row rfl _ _ (w.heap.size + 1 + 1) 24 _ (0, 0) _ rfl hR9 Try.underlying24 rfl Try.sizeFlash) rfl ?_
        refine ⟨HB8.out.setCell (p := ⟨w.heap.size + 1 + 1, 0, none⟩) (by simp; omega) _, _, _, rfl, hc4, ?_⟩
        rw [HT.out]
        have hz3 := HZ3.out
        exact TOwn.more (ownsRow_setCell_other HO8.out (fun h => by simp [Value.ownBlock] at h; omega) _) (by omega)

end Go.Proofs.Ytpmjgkngkaleeaa
