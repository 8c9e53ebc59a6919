import Derived.Test.YtpmjgkngkaleeaaJourPutW
/- A record is put on a flash of ours (chapter L): journal.Add. -/
namespace Go.Proofs.Ytpmjgkngkaleeaa
open Go.RowKit

theorem conv_four {P : Program} {e src dst : TypeId} (hs : P.underlying src = some (.slice e)) (he : P.underlying e = some (.int .u8)) (hd : P.underlying dst = some .string) (W : World) (x0 x1 x2 x3 : Int) :
    (convert src dst (.slice (some ⟨W.heap.size, 0, none⟩) 4 4)).run P (W.alloc (.cells #[.int .u8 x0, .int .u8 x1, .int .u8 x2, .int .u8 x3] e)).drew = .ok (.string (ofBytes [UInt8.ofNat x0.toNat, UInt8.ofNat x1.toNat, UInt8.ofNat x2.toNat, UInt8.ofNat x3.toNat])) (W.alloc (.cells #[.int .u8 x0, .int .u8 x1, .int .u8 x2, .int .u8 x3] e)).drew :=
  run_convert_bytes_arg (P := P) (W.alloc (.cells #[.int .u8 x0, .int .u8 x1, .int .u8 x2, .int .u8 x3] e)).drew src e hs he W.heap.size 0 4 4 [x0, x1, x2, x3] rfl (fun i hi => by
    have hh : (W.alloc (.cells #[.int .u8 x0, .int .u8 x1, .int .u8 x2, .int .u8 x3] e)).drew.heap[W.heap.size]? = some (.cells #[.int .u8 x0, .int .u8 x1, .int .u8 x2, .int .u8 x3] e (0, 0)) := heap_alloc_new _ _
    rw [cell_of_heap hh (0 + i)]
    match i, hi with
    | 0, _ | 1, _ | 2, _ | 3, _ => rfl) dst hd

theorem load_none (f : Fl) (w : World) (h : f.ok w) (hf : flErr f.bl = 0) (hj : jload (flat f.bl) = none) : Calls Try.prog 43 #[f.v] w fun e w' => e = .returned (.tuple #[.pointer none, .bool false]) ∧ Below w.heap.size w w' := by
  refine (load_any f w h hf).mono fun e w' hp => ?_
  obtain ⟨h1, h2⟩ := hp
  rw [hj] at h2
  exact ⟨h2, h1⟩
theorem load_some (f : Fl) (w : World) (h : f.ok w) (hf : flErr f.bl = 0) (k : Nat) (r : List ByteArray) (e : Nat) (hj : jload (flat f.bl) = some (k, r, e)) : Calls Try.prog 43 #[f.v] w fun en w' => Below w.heap.size w w' ∧ ∃ B, w.heap.size ≤ B ∧ en = .returned (.tuple #[.pointer (some ⟨B, 0, none⟩), .bool true]) ∧ JSt w' B (ofBytes (flat f.bl)) k r e := by
  refine (load_any f w h hf).mono fun e w' hp => ?_
  obtain ⟨h1, h2⟩ := hp
  rw [hj] at h2
  exact ⟨h1, h2⟩
theorem scan_end {S : List UInt8} : ∀ {n i : Nat} {r : List ByteArray} {e k : Nat} {r1 : List ByteArray} {e1 : Nat}, jscan S n i r e = some (k, r1, e1) → e ≤ S.length → e1 ≤ S.length
  | 0, i, r, e, k, r1, e1, h, he => by
    simp only [jscan, Option.some.injEq, Prod.mk.injEq] at h
    obtain ⟨_, _, rfl⟩ := h
    exact he
  | n + 1, i, r, e, k, r1, e1, h, he => by
    rw [jscan_succ] at h
    split at h
    · cases hr : readOf S (entryOf S i) r e with
      | none => rw [hr] at h; cases h
      | some p => rw [hr] at h; exact scan_end (n := n) h (read_bound hr he).1
    · injection h with h
      injection h with _ h2
      injection h2 with _ h3
      omega
theorem Ours.end_le {S : List UInt8} {k : Nat} {r : List ByteArray} {e0 e : Nat} (h : Ours S k r e0 e) : e ≤ S.length := by
  rw [h.end_]
  have h1 := scan_end h.scan (Nat.zero_le _)
  have h2 : usedN (S.take (S.length - 5 * k)) ≤ S.length := Nat.le_trans (usedTo_le _ _) (by rw [List.length_take]; omega)
  omega
theorem DOwn.more {w : World} {b b' : Nat} {v : Value} {l : List Ded} (h : DOwn w b v l) (hb : b' ≤ b) : DOwn w b' v l := by
  refine ⟨h.1, ?_⟩
  rcases h.2 with h0 | ⟨g, cap, cur, e1, e2, e3, e4⟩
  · exact .inl h0
  · exact .inr ⟨g, cap, cur, e1, by omega, e3, e4⟩
theorem putD_zero (a : Nat) : putD a (bytesOf ⟨#[0]⟩) = [⟨1, (a : Int), 0⟩] := by
  show putD a [0] = _
  unfold putD
  rw [if_neg (by decide)]; rfl
/-- what Add hands back -/
def AddPost (w : World) (E : Int) (D0 : List Ded) (e : Ending) (w' : World) : Prop := Below w.heap.size w w' ∧ ∃ (A : Option Addr) (c : Nat) (D : List Ded), e = .returned (.tuple #[.slice A D.length c, .int .i64 E]) ∧ DOwn w' w.heap.size (.slice A D.length c) D ∧ D = D0
theorem AddPost.nil {w w' : World} {E : Int} (h : Below w.heap.size w w') : AddPost w E [] (.returned (.tuple #[.slice none 0 0, .int .i64 E])) w' := ⟨h, none, 0, [], rfl, World.ownsRow_nil _ _ _ _, rfl⟩

set_option maxHeartbeats 4000000 in
set_option maxRecDepth 100000 in
theorem Add_any (f : Fl) (s : ByteArray) (w : World) (h : f.ok w) (hf : flErr f.bl = 0) (h1 : 1 ≤ s.size) (h8 : s.size ≤ 800) :
    Calls Try.prog 42 #[f.v, .string s] w (AddPost w (addErr (flat f.bl) s.size) (if addErr (flat f.bl) s.size = 0 then appDeeds f.bl (bytesOf s) else [])) := by
  obtain ⟨w1, hw1⟩ : ∃ w1, w1 = w.alloc (.cells #[.slice f.a f.bl.length f.c] 24) := ⟨_, rfl⟩
  obtain ⟨f0, hz1, hb1⟩ := box1 hw1
  have hw1' := hw1.symm
  have HB1 := Lib.hid hb1
  have hSl := flat_len hf
  have h32 := (flErr_ok.1 hf).1
  cases hj : jload (flat f.bl) with
  | none =>
    have cL := Lib.hid (load_none f w1 (h.below hb1) hf hj)
    have hE : addErr (flat f.bl) s.size = 4 := by unfold addErr; rw [hj]
    rw [hE, if_neg (by decide)]
    clear hw1 hb1 h hf hj h32 hSl hE
    go_enter Try.func42, Try.ntmps42
    go_wp2_with (go_at_call 43; refine (cL.out).mono ?_; rintro e w2 ⟨rfl, hb2⟩)
    go_ret2
    exact AddPost.nil (HB1.out.trans (hb2.mono HB1.out.size))
  | some p =>
    obtain ⟨k, r, e⟩ := p
    have cL := load_some f w1 (h.below hb1) hf k r e hj
    obtain ⟨e0, ho⟩ := load_ours hj
    have hk5 := ho.many
    have hel := ho.end_le
    obtain ⟨EA, hEA⟩ : ∃ E, E = addErr (flat f.bl) s.size := ⟨_, rfl⟩
    obtain ⟨DA, hDA⟩ : ∃ D, D = appDeeds f.bl (bytesOf s) := ⟨_, rfl⟩
    rw [← hEA, ← hDA]
    unfold addErr at hEA
    unfold appDeeds at hDA
    rw [hj] at hEA hDA
    simp only at hEA hDA
    rw [hSl] at hEA hk5 hel
    obtain ⟨n, hn⟩ : ∃ n, n = f.bl.length := ⟨_, rfl⟩
    unfold Fl.v at cL ⊢
    rw [← hn] at hEA hDA hSl hk5 h32 f0 hw1' cL hel ⊢
    obtain ⟨S, hS⟩ : ∃ S, S = ofBytes (flat f.bl) := ⟨_, rfl⟩
    have hSz : S.size = 128 * n := by rw [hS, ofBytes_size, hSl]
    rw [← hS] at cL
    have CL := Lib.hid cL
    obtain ⟨AT, hAT⟩ : ∃ AT : Int, AT = 128 * (n : Int) - 5 * ((k : Int) + 1) := ⟨_, rfl⟩
    have HAT := Lib.hid hAT
    have HSL := Lib.hid (bytes_length s)
    clear hw1 hb1 h hf hj hS ho cL hSl hn
    go_enter Try.func42, Try.ntmps42
    go_upto_region 4 with (
      go_at_call 43
      refine (CL.out).mono ?_
      rintro e' w2 ⟨hb2, B, hB, rfl, hJ2⟩
      have HJ2 := Lib.hid hJ2
      obtain ⟨A2, c2, hJ2, hO2⟩ := hJ2
      have s0 := cell_of_heap hJ2 0
      have s1 := cell_of_heap hJ2 1
      have s3 := cell_of_heap hJ2 3
      have hBl := (Array.getElem?_eq_some_iff.1 hJ2).1
      simp only [List.getElem?_toArray, List.getElem?_cons_zero, List.getElem?_cons_succ] at s0 s1 s3
      have HB2 := Lib.hid (HB1.out.trans (hb2.mono HB1.out.size))
      have HBB := Lib.hid (show w.heap.size ≤ B by have := HB1.out.size; omega)
      have HBL := Lib.hid (show B < w2.heap.size from hBl)
      clear hb2 hJ2 hO2 hBl hB)
    have v1 : IntKind.i64.wrap ((k : Int) + 1) = (k : Int) + 1 := IntWalk.i64_in _ (by omega)
    have v2 : IntKind.i64.wrap (5 * ((k : Int) + 1)) = 5 * ((k : Int) + 1) := IntWalk.i64_in _ (by omega)
    have v3 : IntKind.i64.wrap (128 * (n : Int) - 5 * ((k : Int) + 1)) = AT := by rw [IntWalk.i64_in _ (by omega)]; exact HAT.out.symm
    have v4 : (S.size : Int) = 128 * (n : Int) := by rw [hSz]; omega
    go_cut [8] from 17 to 28 (fun v wx => v = .int .i64 AT ∧ wx.heap = w2.heap ∧ Below w2.heap.size w2 wx)
    case first =>
      clear hAT hSz hEA
      go_quiet (fail)
      have HN := Lib.hid (show Below w2.heap.size w2 (w2.drewN nq) from below_drewN (Below.refl _ _) nq)
      go_wp2_with fail
      go_meet
      exact ⟨rfl, rfl, HN.out⟩
    case rest =>
      obtain ⟨rfl, hh, hb3⟩ := hcut
      obtain ⟨w3, rfl⟩ : ∃ W : World, W = wc := ⟨_, rfl⟩
      have t3 : w3.cell? ⟨B, 3, none⟩ = some (.int .i64 e) := (World.cell?_of_block (a := ⟨B, 3, none⟩) (by rw [hh])).trans s3
      have HB3 := Lib.hid (HB2.out.trans (hb3.mono HB2.out.size))
      have hBl3 : B < w3.heap.size := by have := HBL.out; have := hb3.size; omega
      have hATb : -5 ≤ AT ∧ AT ≤ 4096 := by have := HAT.out; omega
      obtain ⟨hA1, hA2⟩ := hATb
      clear v1 v2 v3 v4 s0 s1 s3 hh hb3
      by_cases hr : 128 * n < e + s.size + 5 + 5 * (k + 1)
      · rw [if_pos hr] at hEA
        have hc : AT - 5 < (e : Int) + s.size := by omega
        subst hEA
        clear hAT hSz hr hk5
        go_wp2_with fail
        go_ret2
        exact AddPost.nil HB3.out
      · rw [if_neg hr] at hEA
        obtain ⟨q, hq⟩ : ∃ q, q = 128 * n - 5 * (k + 1) := ⟨_, rfl⟩
        have hATq : AT = (q : Int) := by omega
        subst hATq
        have hc : ¬ ((q : Int) - 5 < (e : Int) + s.size) := by omega
        subst hEA
        rw [← hq] at hDA
        have hq4 : q ≤ 4096 := by omega
        obtain ⟨m, hm⟩ : ∃ m, m = s.size := ⟨_, rfl⟩
        have he4 : e ≤ 4096 := by omega
        obtain ⟨w4, hw4⟩ : ∃ x, x = w3.alloc (.cells #[.slice none 0 0] 88) := ⟨_, rfl⟩
        have hP4 : PSt w4 w3.heap.size [] := ⟨none, 0, hw4 ▸ heap_alloc_new _ _, World.ownsRow_nil _ _ _ _⟩
        have hb4 : Below w3.heap.size w3 w4 := hw4 ▸ (Below.refl _ _).alloc (Nat.le_refl _) _
        have hw4' := hw4.symm
        have cP1 := put_any w3.heap.size e s [] w4 (by omega) (by omega) (by simp) hP4
        rw [List.nil_append] at cP1
        have CP1 := Lib.hid cP1
        have t4 := (hb4.cell (p := ⟨B, 3, none⟩) hBl3).trans t3
        have HB4 := Lib.hid (HB3.out.trans (hb4.mono HB3.out.size))
        have HWB := Lib.hid (show w.heap.size ≤ w3.heap.size from HB3.out.size)
        have HZ4 := Lib.hid (show w3.heap.size < w4.heap.size by rw [hw4]; simp)
        have HQ := Lib.hid hq
        have hm8 : m ≤ 800 := by omega
        have HDA := Lib.hid hDA
        have HM := Lib.hid hm
        clear hAT hSz hr hk5 hw4 hP4 hb4 cP1 hq hDA hm
        go_upto_region 9 with (
          go_at_call 52
          refine (CP1.out).mono ?_
          rintro e' w5 ⟨hb5, hP5, u, rfl⟩
          have t5 := (hb5.cell (p := ⟨B, 3, none⟩) hBl3).trans t4
          have HP5 := Lib.hid hP5
          have HB5 := Lib.hid (HB4.out.trans (hb5.mono HWB.out))
          have HZ5 := Lib.hid (show w3.heap.size < w5.heap.size by have := HZ4.out; have := hb5.size; omega)
          clear hb5 hP5)
        obtain ⟨b0, hb0⟩ : ∃ b, b = e % 256 := ⟨_, rfl⟩
        obtain ⟨b1, hb1⟩ : ∃ b, b = e / 256 % 256 := ⟨_, rfl⟩
        obtain ⟨b2, hb2⟩ : ∃ b, b = s.size % 256 := ⟨_, rfl⟩
        obtain ⟨b3, hb3⟩ : ∃ b, b = s.size / 256 % 256 := ⟨_, rfl⟩
        have c0 : IntKind.u8.wrap (e : Int) = (b0 : Int) := by rw [IntKind.wrap_u8', hb0]; omega
        have c1 : IntKind.u8.wrap ((e : Int) / 256) = (b1 : Int) := by rw [IntKind.wrap_u8', hb1]; omega
        have c2 : IntKind.u8.wrap (s.size : Int) = (b2 : Int) := by rw [IntKind.wrap_u8', hb2]; omega
        have c3 : IntKind.u8.wrap ((s.size : Int) / 256) = (b3 : Int) := by rw [IntKind.wrap_u8', hb3]; omega
        obtain ⟨H, hH⟩ : ∃ H, H = ofBytes (headB e s.size) := ⟨_, rfl⟩
        have hcv := conv_four (P := Try.prog) (src := 63) (dst := 9) Try.underlying63 Try.underlying5 Try.underlying9 w5 (b0 : Int) (b1 : Int) (b2 : Int) (b3 : Int)
        simp only [Int.toNat_natCast] at hcv
        have hH2 : ofBytes [UInt8.ofNat b0, UInt8.ofNat b1, UInt8.ofNat b2, UInt8.ofNat b3] = H := by rw [hH, hb0, hb1, hb2, hb3]; rfl
        rw [hH2] at hcv
        have HPA := Lib.hid (show PSt (w5.alloc (.cells #[.int .u8 (b0 : Int), .int .u8 (b1 : Int), .int .u8 (b2 : Int), .int .u8 (b3 : Int)] 5)).drew w3.heap.size (putD e (bytesOf s)) from
          HP5.out.below (((Below.refl _ _).alloc (Nat.le_refl _) _).drew) (Nat.le_refl _))
        have cP2 := put_any w3.heap.size q H (putD e (bytesOf s)) _ (by rw [hH, ofBytes_size]; exact Nat.le_of_lt (by decide : 4 < 5000)) (by omega) (by have := putD_length e (bytesOf s); rw [HSL.out] at this; omega) HPA.out
        have HHB := Lib.hid (show bytesOf H = headB e s.size by rw [hH, bytes_of])
        rw [HHB.out] at cP2
        have CP2 := Lib.hid cP2
        have HBA := Lib.hid (show Below w3.heap.size w5 (w5.alloc (.cells #[.int .u8 (b0 : Int), .int .u8 (b1 : Int), .int .u8 (b2 : Int), .int .u8 (b3 : Int)] 5)).drew from ((Below.refl _ _).alloc (Nat.le_of_lt HZ5.out) _).drew)
        clear hb0 hb1 hb2 hb3 hH hH2 cP2
        go_cut [8] from 48 to 70 (fun v wx => v = .int .i64 (q : Int) ∧ PSt wx w3.heap.size (putD e (bytesOf s) ++ putD q (headB e s.size)) ∧ Below w.heap.size w wx)
        case first =>
          go_region_law ((go_simp; go_at_call 52; with_reducible refine (CP2.out).mono ?_; rintro e' w6 ⟨hb6, hP6, u6, rfl⟩; have HP6 := Lib.hid hP6; have HB6 := Lib.hid (HB5.out.trans ((HBA.out.trans hb6).mono HWB.out)); clear hb6 hP6))
          all_goals (
            go_wp2_with fail
            go_meet
            exact ⟨rfl, HP6.out, HB6.out⟩)
        case rest =>
          obtain ⟨rfl, hP6, hb6⟩ := hcut
          obtain ⟨w6, rfl⟩ : ∃ W : World, W = wc := ⟨_, rfl⟩
          have cP3 := put_any w3.heap.size (q + 4) ⟨#[0]⟩ _ w6 (by decide) (by omega) (by
            have h1 := putD_length e (bytesOf s)
            have h2 := putD_length q (headB e s.size)
            rw [HSL.out] at h1
            have : (headB e s.size).length = 4 := rfl
            rw [List.length_append]; omega) hP6
          rw [putD_zero, show ((q + 4 : Nat) : Int) = (q : Int) + 5 - 1 by omega] at cP3
          obtain ⟨D7, hD7⟩ : ∃ D, D = putD e (bytesOf s) ++ putD q (headB e s.size) ++ [⟨1, (q : Int) + 5 - 1, 0⟩] := ⟨_, rfl⟩
          rw [← hD7] at cP3
          have HD7 := Lib.hid hD7
          have CP3 := Lib.hid cP3
          have HB6 := Lib.hid hb6
          clear hD7 cP3 hP6 hb6 hcv c0 c1 c2 c3 HPA CP2 HBA
          go_wp2_with (
            go_at_call 52
            (with_reducible refine (CP3.out).mono ?_)
            rintro e' w7 ⟨hb7, ⟨A7, c7, hJ7, hO7⟩, u7, rfl⟩
            have z7 := cell_of_heap hJ7 0
            simp only [List.getElem?_toArray, List.getElem?_cons_zero] at z7
            have HO7 := Lib.hid hO7
            have HB7 := Lib.hid (HB6.out.trans (hb7.mono HWB.out))
            clear hJ7 hO7 hb7)
          go_ret2
          refine ⟨HB7.out, A7, c7, D7, rfl, DOwn.more HO7.out (by have := HWB.out; omega), ?_⟩
          rw [HD7.out, HDA.out]; unfold addD
          rw [HSL.out, show ((q + 4 : Nat) : Int) = (q : Int) + 5 - 1 by omega]

end Go.Proofs.Ytpmjgkngkaleeaa
