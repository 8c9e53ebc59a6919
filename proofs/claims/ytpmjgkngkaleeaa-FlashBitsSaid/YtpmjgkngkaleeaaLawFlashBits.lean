import Derived.Test.YtpmjgkngkaleeaaOpenF
import Derived.Test.YtpmjgkngkaleeaaRAllW
/- FlashBits: a program never turns a bit from 0 to 1; a deed that is torn, and done then, is as if it had been done at once; nothing else is touched. No condition. -/
namespace Go.Proofs.Ytpmjgkngkaleeaa
open Go.ChangeShapes Go.WideShapes Go.ChangeAt Go.RowKit Go.WideMaps Go.WideElems
open Go.ChangeMaps (setBlock shut_map_nil open_string shut_string keptBut_setBlock frozen?_setBlock heap_setBlock_same)

/-- what is true of each byte behind a deed, whole or in part -/
def ByteOk (K P : Int) (j : Nat) (x y : Nat) : Prop := (¬ ((K = 1 ∧ (j : Int) = P) ∨ (K = 2 ∧ ((j / 128 : Nat) : Int) = P)) → y = x) ∧ (K = 1 → x ||| y = x)
theorem byte_ok {f : List ByteArray} {d : Ded} (p : Nat → Nat) (hf : flErr f = 0) (hd : dedErr f.length d = 0) (j : Nat) (hj : j < 128 * f.length) :
    ByteOk d.kind d.at_ j ((flat f).getD j 0).toNat ((flat (turned f d p)).getD j 0).toNat := by
  rw [turned_byte p hf hd j hj]
  refine ⟨fun h => ?_, fun h => ?_⟩
  · rw [if_neg (fun h1 => h (.inl h1)), if_neg (fun h1 => h (.inr h1))]
  · split
    · rw [show (UInt8.ofNat (turnB ((flat f).getD j 0).toNat d.value.toNat (p 0))).toNat = turnB ((flat f).getD j 0).toNat d.value.toNat (p 0) from toNat_ofNat8 (turnB_lt (u8_lt_ _))]
      exact or_turn _ _ _ (u8_lt_ _)
    · rw [if_neg (by omega)]; simp
theorem or_self_ (n : Nat) : n ||| n = n := by simp

set_option maxHeartbeats 4000000 in
set_option maxRecDepth 100000 in
theorem FlashBits_any (f : Fl) (d : Ded) (s : ByteArray) (w : World) (h : f.ok w) (_ : True) (hs : s.size ≤ 140737488351232) :
    Calls Try.prog 5 #[f.v, d.v, .string s] w fun e w' => e = .returned (.bool true) ∧ Below w.heap.size w w' := by
  obtain ⟨w1, hw1⟩ : ∃ w1, w1 = w.alloc (.cells #[.slice f.a f.bl.length f.c] 24) := ⟨_, rfl⟩
  obtain ⟨f0, hz1, hb1⟩ := box1 hw1
  obtain ⟨w2, hw2⟩ : ∃ w2, w2 = w1.alloc (.cells #[.int .i64 d.kind, .int .i64 d.at_, .int .i64 d.value] 32) := ⟨_, rfl⟩
  obtain ⟨d0, d1, d2, hz2, hb2⟩ := box3 hw2
  have hw1' := hw1.symm
  have hw2' := hw2.symm
  have f1 := (hb2.cell (p := ⟨w.heap.size, 0, none⟩) (by simp; omega)).trans f0
  have HB2 := Lib.hid (hb1.trans (hb2.mono (by omega)))
  have HZ2 := Lib.hid (show w1.heap.size = w.heap.size + 1 ∧ w2.heap.size = w.heap.size + 2 by omega)
  have H := Lib.hid h
  have cB := Lib.hid (fun W => flashBegun_any W)
  have cD := Lib.hid (fun B W (hW : Below w.heap.size w W) (hdd : DedsOk W (some ⟨B, 0, none⟩) [d]) => Do_any f (some ⟨B, 0, none⟩) 1 [d] W (h.below hW) hdd)
  have cT := Lib.hid (fun W (hW : Below w.heap.size w W) => Torn_any f d.kind d.at_ d.value s W (h.below hW) (by unfold big; exact hs))
  obtain ⟨E, hE⟩ : ∃ E, E = dedsErr f.bl [d] := ⟨_, rfl⟩
  rw [← hE] at cD
  change Hid (∀ W, _ → Calls _ _ _ W fun e w' => _ ∧ ∃ f' : Fl, e = .returned (.tuple #[f'.v, .int .i64 (dedsErr f.bl [d])]) ∧ FlRes w' _ f' (resIf (dedsErr f.bl [d]) (tornL f.bl d (bytesOf s)))) at cT
  rw [← hE] at cT
  change Hid (∀ B W, _ → _ → Calls _ _ #[_, .slice _ 1 1] W _) at cD
  have HE := Lib.hid hE
  clear hw1 hw2 hb1 hb2 hz1 hz2 f0 h hE
  by_cases t0 : E = 0
  · subst t0
    rw [resIf_zero rfl] at cD cT
    have hd0 := HE.out.symm
    rw [deds_one] at hd0
    have hfl : flErr f.bl = 0 := by
      by_cases h : flErr f.bl = 0
      · exact h
      · rw [if_neg h] at hd0; exact absurd hd0 h
    rw [if_pos hfl] at hd0
    obtain ⟨XA, hXA⟩ : ∃ X, X = doneL f.bl [d] := ⟨_, rfl⟩
    obtain ⟨XB, hXB⟩ : ∃ X, X = tornL f.bl d (bytesOf s) := ⟨_, rfl⟩
    rw [← hXA] at cD
    rw [← hXB] at cT
    have HA := Lib.hid (show flErr XA = 0 by rw [hXA]; exact turned_ok _ hfl hd0)
    have HB := Lib.hid (show flErr XB = 0 by rw [hXB]; exact turned_ok _ hfl hd0)
    have HC := Lib.hid (show dedsErr XB [d] = 0 ∧ doneL XB [d] = XA from by
      have hl : XB.length = f.bl.length := by rw [hXB]; exact turned_length ..
      refine ⟨by rw [deds_one, if_pos HB.out, hl]; exact hd0, ?_⟩
      rw [hXA, hXB]
      exact done_again _ hfl hd0)
    have HBY := Lib.hid (fun (j : Nat) (hj : j < 128 * f.bl.length) => (show ByteOk d.kind d.at_ j ((flat f.bl).getD j 0).toNat ((flat XA).getD j 0).toNat ∧ ByteOk d.kind d.at_ j ((flat f.bl).getD j 0).toNat ((flat XB).getD j 0).toNat from by
      rw [hXA, hXB]
      exact ⟨byte_ok _ hfl hd0 j hj, byte_ok _ hfl hd0 j hj⟩))
    have HLEN := Lib.hid (show (flat f.bl).length = 128 * f.bl.length ∧ (flat XA).length = 128 * f.bl.length ∧ (flat XB).length = 128 * f.bl.length from by
      have la : XA.length = f.bl.length := by rw [hXA]; exact turned_length ..
      have lb : XB.length = f.bl.length := by rw [hXB]; exact turned_length ..
      exact ⟨flat_length' (flErr_ok.1 hfl).2, by rw [flat_length' (flErr_ok.1 HA.out).2, la], by rw [flat_length' (flErr_ok.1 HB.out).2, lb]⟩)
    have hn32 := (flErr_ok.1 hfl).1
    have HF := Lib.hid hfl
    clear hXA hXB hfl hd0
    go_enter Try.func5, Try.ntmps5
    go_upto_region 10 with (first
      | (go_at_call 9; refine (cB.out _).mono ?_; rintro e w3 ⟨rfl, hb3⟩
         have HB3 := Lib.hid (HB2.out.trans (hb3.mono HB2.out.size))
         have f3 := (hb3.cell (p := ⟨w.heap.size, 0, none⟩) (by have := HZ2.out; simp; omega)).trans f1
         have p0 := (hb3.cell (p := ⟨w1.heap.size, 0, none⟩) (by have := HZ2.out; simp; omega)).trans d0
         have p1 := (hb3.cell (p := ⟨w1.heap.size, 1, none⟩) (by have := HZ2.out; simp; omega)).trans d1
         have p2 := (hb3.cell (p := ⟨w1.heap.size, 2, none⟩) (by have := HZ2.out; simp; omega)).trans d2
         obtain ⟨w4, hw4⟩ : ∃ x, x = w3.alloc (.cells #[.int .i64 d.kind, .int .i64 d.at_, .int .i64 d.value] 32) := ⟨_, rfl⟩
         have hb4 : Below w3.heap.size w3 w4 := hw4 ▸ (Below.refl _ _).alloc (Nat.le_refl _) _
         have hd4 := deds_block (l := [d]) (show w4.heap[w3.heap.size]? = _ from hw4 ▸ heap_alloc_new _ _) rfl (by simp)
         have HB4 := Lib.hid (HB3.out.trans (hb4.mono HB3.out.size))
         have CD := Lib.hid (cD.out _ _ HB4.out hd4)
         have f4 := (hb4.cell (p := ⟨w.heap.size, 0, none⟩) (cell_lt' f3)).trans f3
         have q0 := (hb4.cell (p := ⟨w1.heap.size, 0, none⟩) (cell_lt' p0)).trans p0
         have q1 := (hb4.cell (p := ⟨w1.heap.size, 1, none⟩) (cell_lt' p1)).trans p1
         have q2 := (hb4.cell (p := ⟨w1.heap.size, 2, none⟩) (cell_lt' p2)).trans p2
         have hw4' := hw4.symm
         clear hb3 hw4 hb4 hd4)
      | (go_at_call 10; with_reducible refine (CD.out).mono ?_; rintro e w5 ⟨hb5, a, rfl, hr5⟩
         obtain ⟨w6, hw6⟩ : ∃ x, x = w5.alloc (.cells #[.slice a.a a.bl.length a.c] 24) := ⟨_, rfl⟩
         obtain ⟨a6, _, hz6, hb6⟩ := box_new hw6
         have hw6' := hw6.symm
         have hb46 := hb5.trans (hb6.mono hb5.size)
         have f6 := (hb46.cell (p := ⟨w.heap.size, 0, none⟩) (cell_lt' f4)).trans f4
         have r0 := (hb46.cell (p := ⟨w1.heap.size, 0, none⟩) (cell_lt' q0)).trans q0
         have r1 := (hb46.cell (p := ⟨w1.heap.size, 1, none⟩) (cell_lt' q1)).trans q1
         have r2 := (hb46.cell (p := ⟨w1.heap.size, 2, none⟩) (cell_lt' q2)).trans q2
         have HA6 := Lib.hid ((hr5.ok (.inr HA.out)).below hb6)
         have HAX := Lib.hid hr5.is
         have HB6 := Lib.hid (HB4.out.trans (hb46.mono HB4.out.size))
         clear hw6 hz6 hb5 hb6 hr5 hb46)
      | (go_at_call 14; refine (cT.out _ HB6.out).mono ?_; rintro e w7 ⟨hb7, b, rfl, hr7⟩
         obtain ⟨w8, hw8⟩ : ∃ x, x = w7.alloc (.cells #[.slice b.a b.bl.length b.c] 24) := ⟨_, rfl⟩
         obtain ⟨b8, _, hz8, hb8⟩ := box_new hw8
         have hw8' := hw8.symm
         have hb68 := hb7.trans (hb8.mono hb7.size)
         obtain ⟨w9, hw9⟩ : ∃ x, x = w8.alloc (.cells #[.int .i64 d.kind, .int .i64 d.at_, .int .i64 d.value] 32) := ⟨_, rfl⟩
         have hb9 : Below w8.heap.size w8 w9 := hw9 ▸ (Below.refl _ _).alloc (Nat.le_refl _) _
         have hd9 := deds_block (l := [d]) (show w9.heap[w8.heap.size]? = _ from hw9 ▸ heap_alloc_new _ _) rfl (by simp)
         have hw9' := hw9.symm
         have r8 := (hb68.cell (p := ⟨w1.heap.size, 0, none⟩) (cell_lt' r0)).trans r0
         have r9 := (hb68.cell (p := ⟨w1.heap.size, 1, none⟩) (cell_lt' r1)).trans r1
         have r10 := (hb68.cell (p := ⟨w1.heap.size, 2, none⟩) (cell_lt' r2)).trans r2
         have hb69 := hb68.trans (hb9.mono hb68.size)
         have hO8 := (hr7.ok (.inr HB.out)).below hb8
         have hO9 := hO8.below hb9
         have cE := Do_any b (some ⟨w8.heap.size, 0, none⟩) 1 [d] w9 hO9 hd9
         rw [hr7.is, HC.out.1, HC.out.2, resIf_zero rfl] at cE
         change Calls _ _ #[_, .slice _ 1 1] w9 _ at cE
         have CE := Lib.hid cE
         have HBX := Lib.hid hr7.is
         have b9 := (hb9.cell (p := ⟨w7.heap.size, 0, none⟩) (cell_lt' b8)).trans b8
         have a9 := (hb69.cell (p := ⟨w5.heap.size, 0, none⟩) (cell_lt' a6)).trans a6
         have f9 := (hb69.cell (p := ⟨w.heap.size, 0, none⟩) (cell_lt' f6)).trans f6
         have s0 := (hb9.cell (p := ⟨w1.heap.size, 0, none⟩) (cell_lt' r8)).trans r8
         have s1 := (hb9.cell (p := ⟨w1.heap.size, 1, none⟩) (cell_lt' r9)).trans r9
         have s2 := (hb9.cell (p := ⟨w1.heap.size, 2, none⟩) (cell_lt' r10)).trans r10
         have HO9 := Lib.hid hO9
         have HA9 := Lib.hid (HA6.out.below hb69)
         have HB9 := Lib.hid (HB6.out.trans (hb69.mono HB6.out.size))
         clear hw8 hw9 hz8 hb7 hb8 hb9 hr7 hb68 hb69 hO8 hO9 hd9 cE)
      | (go_at_call 10; with_reducible refine (CE.out).mono ?_; rintro e w10 ⟨hb10, c, rfl, hr10⟩
         obtain ⟨w11, hw11⟩ : ∃ x, x = w10.alloc (.cells #[.slice c.a c.bl.length c.c] 24) := ⟨_, rfl⟩
         obtain ⟨c11, _, hz11, hb11⟩ := box_new hw11
         have hw11' := hw11.symm
         have hb911 := hb10.trans (hb11.mono hb10.size)
         have b11 := (hb911.cell (p := ⟨w7.heap.size, 0, none⟩) (cell_lt' b9)).trans b9
         have a11 := (hb911.cell (p := ⟨w5.heap.size, 0, none⟩) (cell_lt' a9)).trans a9
         have f11 := (hb911.cell (p := ⟨w.heap.size, 0, none⟩) (cell_lt' f9)).trans f9
         have t0' := (hb911.cell (p := ⟨w1.heap.size, 0, none⟩) (cell_lt' s0)).trans s0
         have t1' := (hb911.cell (p := ⟨w1.heap.size, 1, none⟩) (cell_lt' s1)).trans s1
         have cS := SameFlash_any a c w11 (HA9.out.below hb911) ((hr10.ok (.inr HA.out)).below hb11)
         rw [hr10.is, HAX.out, show decide (XA = XA) = true from decide_eq_true rfl] at cS
         have CS := Lib.hid cS
         have HA11 := Lib.hid (HA9.out.below hb911)
         have HO11 := Lib.hid (HO9.out.below hb911)
         have HB11 := Lib.hid (HB9.out.trans (hb911.mono HB9.out.size))
         clear hw11 hz11 hb10 hb11 hr10 hb911 cS)
      | (go_at_call 11; refine (CS.out).mono ?_; rintro e w12 ⟨rfl, hb12⟩
         have b12 := (hb12.cell (p := ⟨w7.heap.size, 0, none⟩) (cell_lt' b11)).trans b11
         have a12 := (hb12.cell (p := ⟨w5.heap.size, 0, none⟩) (cell_lt' a11)).trans a11
         have f12 := (hb12.cell (p := ⟨w.heap.size, 0, none⟩) (cell_lt' f11)).trans f11
         have e0 := (hb12.cell (p := ⟨w1.heap.size, 0, none⟩) (cell_lt' t0')).trans t0'
         have e1 := (hb12.cell (p := ⟨w1.heap.size, 1, none⟩) (cell_lt' t1')).trans t1'
         have HA12 := Lib.hid (HA11.out.below hb12)
         have HO12 := Lib.hid (HO11.out.below hb12)
         have HB12 := Lib.hid (HB11.out.trans (hb12.mono HB11.out.size))
         clear hb12))
    have hlf : w.heap.size < w12.heap.size := cell_lt' f12
    have hla : w5.heap.size < w12.heap.size := cell_lt' a12
    have hlb : w7.heap.size < w12.heap.size := cell_lt' b12
    have hle : w1.heap.size < w12.heap.size := cell_lt' e0
    have cA1 := Lib.hid (fun W (hW : Below w12.heap.size w12 W) => AllOf_any f W (H.out.below (HB12.out.trans (hW.mono HB12.out.size))) HF.out)
    have cA2 := Lib.hid (fun W (hW : Below w12.heap.size w12 W) => AllOf_any a W (HA12.out.below hW) (by rw [HAX.out]; exact HA.out))
    have cA3 := Lib.hid (fun W (hW : Below w12.heap.size w12 W) => AllOf_any b W (HO12.out.below hW) (by rw [HBX.out]; exact HB.out))
    rw [HAX.out] at cA2
    rw [HBX.out] at cA3
    obtain ⟨sx, hsx⟩ : ∃ t, t = ofBytes (flat f.bl) := ⟨_, rfl⟩
    obtain ⟨sy, hsy⟩ : ∃ t, t = ofBytes (flat XA) := ⟨_, rfl⟩
    obtain ⟨sz, hsz⟩ : ∃ t, t = ofBytes (flat XB) := ⟨_, rfl⟩
    rw [← hsx] at cA1
    rw [← hsy] at cA2
    rw [← hsz] at cA3
    have lx : sx.size = 128 * f.bl.length := by rw [hsx, ofBytes_size, HLEN.out.1]
    have ly : sy.size = 128 * f.bl.length := by rw [hsy, ofBytes_size, HLEN.out.2.1]
    have lz : sz.size = 128 * f.bl.length := by rw [hsz, ofBytes_size, HLEN.out.2.2]
    have HSX := Lib.hid (And.intro hsx (And.intro hsy hsz))
    clear hsx hsy hsz
    have HC20 := Lib.hid (show Below w12.heap.size w12 w12 ∧ w12.cell? ⟨w.heap.size, 0, none⟩ = some (.slice f.a f.bl.length f.c) ∧ w12.cell? ⟨w5.heap.size, 0, none⟩ = some (.slice a.a a.bl.length a.c) ∧ w12.cell? ⟨w7.heap.size, 0, none⟩ = some (.slice b.a b.bl.length b.c) ∧ w12.cell? ⟨w1.heap.size, 0, none⟩ = some (.int .i64 d.kind) ∧ w12.cell? ⟨w1.heap.size, 1, none⟩ = some (.int .i64 d.at_) from ⟨Below.refl _ _, by assumption, by assumption, by assumption, by assumption, by assumption⟩)
    have HC2D := Lib.hid (show ∀ W' : World, (Below w12.heap.size w12 W' ∧ W'.cell? ⟨w.heap.size, 0, none⟩ = some (.slice f.a f.bl.length f.c) ∧ W'.cell? ⟨w5.heap.size, 0, none⟩ = some (.slice a.a a.bl.length a.c) ∧ W'.cell? ⟨w7.heap.size, 0, none⟩ = some (.slice b.a b.bl.length b.c) ∧ W'.cell? ⟨w1.heap.size, 0, none⟩ = some (.int .i64 d.kind) ∧ W'.cell? ⟨w1.heap.size, 1, none⟩ = some (.int .i64 d.at_)) → (Below w12.heap.size w12 W'.drew ∧ W'.drew.cell? ⟨w.heap.size, 0, none⟩ = some (.slice f.a f.bl.length f.c) ∧ W'.drew.cell? ⟨w5.heap.size, 0, none⟩ = some (.slice a.a a.bl.length a.c) ∧ W'.drew.cell? ⟨w7.heap.size, 0, none⟩ = some (.slice b.a b.bl.length b.c) ∧ W'.drew.cell? ⟨w1.heap.size, 0, none⟩ = some (.int .i64 d.kind) ∧ W'.drew.cell? ⟨w1.heap.size, 1, none⟩ = some (.int .i64 d.at_)) from fun W' ⟨b, a0, a1, a2, a3, a4⟩ => ⟨b.drew, a0, a1, a2, a3, a4⟩)
    have HC2S := Lib.hid (show ∀ W' W2 : World, (Below w12.heap.size w12 W' ∧ W'.cell? ⟨w.heap.size, 0, none⟩ = some (.slice f.a f.bl.length f.c) ∧ W'.cell? ⟨w5.heap.size, 0, none⟩ = some (.slice a.a a.bl.length a.c) ∧ W'.cell? ⟨w7.heap.size, 0, none⟩ = some (.slice b.a b.bl.length b.c) ∧ W'.cell? ⟨w1.heap.size, 0, none⟩ = some (.int .i64 d.kind) ∧ W'.cell? ⟨w1.heap.size, 1, none⟩ = some (.int .i64 d.at_)) → Below W'.heap.size W' W2 → (Below w12.heap.size w12 W2 ∧ W2.cell? ⟨w.heap.size, 0, none⟩ = some (.slice f.a f.bl.length f.c) ∧ W2.cell? ⟨w5.heap.size, 0, none⟩ = some (.slice a.a a.bl.length a.c) ∧ W2.cell? ⟨w7.heap.size, 0, none⟩ = some (.slice b.a b.bl.length b.c) ∧ W2.cell? ⟨w1.heap.size, 0, none⟩ = some (.int .i64 d.kind) ∧ W2.cell? ⟨w1.heap.size, 1, none⟩ = some (.int .i64 d.at_)) from fun W' W2 ⟨b, a0, a1, a2, a3, a4⟩ hb => have s := b.size; ⟨b.trans (hb.mono s), (hb.cell (by first | omega | (simp; omega) | (simp only [block_of_add]; omega))).trans a0, (hb.cell (by first | omega | (simp; omega) | (simp only [block_of_add]; omega))).trans a1, (hb.cell (by first | omega | (simp; omega) | (simp only [block_of_add]; omega))).trans a2, (hb.cell (by first | omega | (simp; omega) | (simp only [block_of_add]; omega))).trans a3, (hb.cell (by first | omega | (simp; omega) | (simp only [block_of_add]; omega))).trans a4⟩)
    have HC2A := Lib.hid (show ∀ (W' : World) (o : Obj), (Below w12.heap.size w12 W' ∧ W'.cell? ⟨w.heap.size, 0, none⟩ = some (.slice f.a f.bl.length f.c) ∧ W'.cell? ⟨w5.heap.size, 0, none⟩ = some (.slice a.a a.bl.length a.c) ∧ W'.cell? ⟨w7.heap.size, 0, none⟩ = some (.slice b.a b.bl.length b.c) ∧ W'.cell? ⟨w1.heap.size, 0, none⟩ = some (.int .i64 d.kind) ∧ W'.cell? ⟨w1.heap.size, 1, none⟩ = some (.int .i64 d.at_)) → (Below w12.heap.size w12 (W'.alloc o) ∧ (W'.alloc o).cell? ⟨w.heap.size, 0, none⟩ = some (.slice f.a f.bl.length f.c) ∧ (W'.alloc o).cell? ⟨w5.heap.size, 0, none⟩ = some (.slice a.a a.bl.length a.c) ∧ (W'.alloc o).cell? ⟨w7.heap.size, 0, none⟩ = some (.slice b.a b.bl.length b.c) ∧ (W'.alloc o).cell? ⟨w1.heap.size, 0, none⟩ = some (.int .i64 d.kind) ∧ (W'.alloc o).cell? ⟨w1.heap.size, 1, none⟩ = some (.int .i64 d.at_)) from fun W' o hc => HC2S.out W' (W'.alloc o) hc ((Below.refl _ _).alloc (Nat.le_refl _) o))
    have HC2L := Lib.hid (show ∀ W' : World, (Below w12.heap.size w12 W' ∧ W'.cell? ⟨w.heap.size, 0, none⟩ = some (.slice f.a f.bl.length f.c) ∧ W'.cell? ⟨w5.heap.size, 0, none⟩ = some (.slice a.a a.bl.length a.c) ∧ W'.cell? ⟨w7.heap.size, 0, none⟩ = some (.slice b.a b.bl.length b.c) ∧ W'.cell? ⟨w1.heap.size, 0, none⟩ = some (.int .i64 d.kind) ∧ W'.cell? ⟨w1.heap.size, 1, none⟩ = some (.int .i64 d.at_)) → Below w12.heap.size w12 W' from fun W' hc => hc.1)
    go_cut [13, 14, 15] from 68 to 73 (fun p q r wx => p = .string sx ∧ q = .string sy ∧ r = .string sz ∧ (Below w12.heap.size w12 wx ∧ wx.cell? ⟨w.heap.size, 0, none⟩ = some (.slice f.a f.bl.length f.c) ∧ wx.cell? ⟨w5.heap.size, 0, none⟩ = some (.slice a.a a.bl.length a.c) ∧ wx.cell? ⟨w7.heap.size, 0, none⟩ = some (.slice b.a b.bl.length b.c) ∧ wx.cell? ⟨w1.heap.size, 0, none⟩ = some (.int .i64 d.kind) ∧ wx.cell? ⟨w1.heap.size, 1, none⟩ = some (.int .i64 d.at_)))
    case first =>
      go_region_held3 (fun W' => Below w12.heap.size w12 W' ∧ W'.cell? ⟨w.heap.size, 0, none⟩ = some (.slice f.a f.bl.length f.c) ∧ W'.cell? ⟨w5.heap.size, 0, none⟩ = some (.slice a.a a.bl.length a.c) ∧ W'.cell? ⟨w7.heap.size, 0, none⟩ = some (.slice b.a b.bl.length b.c) ∧ W'.cell? ⟨w1.heap.size, 0, none⟩ = some (.int .i64 d.kind) ∧ W'.cell? ⟨w1.heap.size, 1, none⟩ = some (.int .i64 d.at_)) (first | exact HC20.out | exact HC2D.out _ HC20.out | exact HC2S.out _ _ (by assumption) (by assumption) | exact HC2S.out _ _ HC20.out (by assumption) | exact HC2S.out _ _ (HC2D.out _ HC20.out) (by assumption) | exact HC2S.out _ _ (HC2D.out _ (by assumption)) (by assumption) | exact HC2D.out _ (by assumption) | exact HC2A.out _ _ (by assumption) | exact HC2A.out _ _ HC20.out | exact HC2A.out _ _ (HC2D.out _ HC20.out) | exact HC2D.out _ (HC2A.out _ _ (by assumption)) | assumption) (first | (go_at_call 18; with_reducible refine (cA1.out _ (HC2L.out _ (by assumption))).mono ?_; rintro e wz ⟨rfl, hbz⟩) | (go_at_call 18; with_reducible refine (cA2.out _ (HC2L.out _ (by assumption))).mono ?_; rintro e wz ⟨rfl, hbz⟩) | (go_at_call 18; with_reducible refine (cA3.out _ (HC2L.out _ (by assumption))).mono ?_; rintro e wz ⟨rfl, hbz⟩))
      all_goals (go_wp2_with fail; go_meet; exact ⟨rfl, rfl, rfl, by assumption⟩)
    case rest =>
      obtain ⟨rfl, rfl, rfl, hb13, _, _, _, kc, pc⟩ := hcut
      obtain ⟨w13, rfl⟩ : ∃ W : World, W = wc := ⟨_, rfl⟩
      have HB13 := Lib.hid (HB12.out.trans (hb13.mono HB12.out.size))
      have hle13 : w1.heap.size < w13.heap.size := cell_lt' kc
      obtain ⟨n, hn⟩ : ∃ n, n = 128 * f.bl.length := ⟨_, rfl⟩
      rw [← hn] at lx ly lz
      have hn63 : n ≤ 4096 := by omega
      have HN := Lib.hid hn
      clear hb13 hn HC20 HC2D HC2S HC2A HC2L
      go_wp2_with fail
      go_loopw [16] (fun i wr => ∃ j : Nat, j ≤ n ∧ i = .int .i64 j ∧ Below w13.heap.size w13 wr) (fun i _ => n - (intOf i).toNat)
      case atStart => exact ⟨0, by omega, rfl, Below.refl _ _⟩
      case round =>
        obtain ⟨j, hj, rfl, hb⟩ := hrel
        have HBR := Lib.hid hb
        by_cases hlt : j < n
        · have hlt' : (j : Int) < n := by omega
          have kc := (hb.cell (p := ⟨w1.heap.size, 0, none⟩) hle13).trans kc
          have pc := (hb.cell (p := ⟨w1.heap.size, 1, none⟩) hle13).trans pc
          have ix := run_index_byte sx j (by omega)
          have iy := run_index_byte sy j (by omega)
          have iz := run_index_byte sz j (by omega)
          obtain ⟨hB1, hB2⟩ := HBY.out j (by rw [← HN.out]; exact hlt)
          rw [HSX.out.1, bytes_of] at ix
          rw [HSX.out.2.1, bytes_of] at iy
          rw [HSX.out.2.2, bytes_of] at iz
          rw [← HSX.out.1] at ix
          rw [← HSX.out.2.1] at iy
          rw [← HSX.out.2.2] at iz
          have hX8 : ((flat f.bl).getD j 0).toNat < 256 := u8_lt_ _
          have hY8 : ((flat XA).getD j 0).toNat < 256 := u8_lt_ _
          have hZ8 : ((flat XB).getD j 0).toNat < 256 := u8_lt_ _
          obtain ⟨X, hX⟩ : ∃ X, X = ((flat f.bl).getD j 0).toNat := ⟨_, rfl⟩
          obtain ⟨Y, hY⟩ : ∃ X, X = ((flat XA).getD j 0).toNat := ⟨_, rfl⟩
          obtain ⟨Z, hZ⟩ : ∃ X, X = ((flat XB).getD j 0).toNat := ⟨_, rfl⟩
          rw [← hX] at ix hX8 hB1 hB2
          rw [← hY] at iy hY8 hB1
          rw [← hZ] at iz hZ8 hB2
          have HB1 := Lib.hid hB1
          have HB2b := Lib.hid hB2
          clear hX hY hZ hB1 hB2 hb
          by_cases k1 : d.kind = 1
          · rw [k1] at kc
            have ho1 := (HB1.out).2 k1
            have ho2 := (HB2b.out).2 k1
            have b1 := u8_or_nat X Y hX8 hY8
            rw [ho1] at b1
            have b2 := u8_or_nat X Z hX8 hZ8
            rw [ho2] at b2
            by_cases kp : (j : Int) = d.at_
            · rw [← kp] at pc
              clear HB1 HB2b ho1 ho2 hX8 hY8 hZ8 kp k1
              go_wp2_with fail
              go_quiet (fail)
              go_wp2_with fail
              go_roundw
              case rel => exact ⟨j + 1, by omega, by go_num, below_drewN HBR.out _⟩
              case measure => (simp [intOf]; try omega)
            · have kp' : ((j : Int) == d.at_) = false := by simp [kp]
              obtain rfl := (HB1.out).1 (by rintro (⟨_, h⟩ | ⟨h, _⟩); (exact kp h); omega)
              obtain rfl := (HB2b.out).1 (by rintro (⟨_, h⟩ | ⟨h, _⟩); (exact kp h); omega)
              clear HB1 HB2b ho1 ho2 hX8 hY8 hZ8 kp k1
              go_wp2_with fail
              go_quiet (fail)
              go_wp2_with fail
              go_roundw
              case rel => exact ⟨j + 1, by omega, by go_num, below_drewN HBR.out _⟩
              case measure => (simp [intOf]; try omega)
          · have k1' : (d.kind == 1) = false := by simp [k1]
            by_cases k2 : d.kind = 2
            · rw [k2] at kc
              by_cases kp : ((j / 128 : Nat) : Int) = d.at_
              · obtain ⟨q, hq⟩ : ∃ q : Nat, q = j / 128 := ⟨_, rfl⟩
                have hq1 : j / 128 = q := hq.symm
                have hq2 : (j : Int) / 128 = q := by omega
                rw [← kp, ← hq] at pc
                clear HB1 HB2b hX8 hY8 hZ8 kp k1 k2 hq k1'
                go_wp2_with fail
                go_quiet (fail)
                go_wp2_with fail
                go_roundw
                case rel => exact ⟨j + 1, by omega, by go_num, below_drewN HBR.out _⟩
                case measure => (simp [intOf]; try omega)
              · have kp' : ((j : Int) / 128 == d.at_) = false := by simp; omega
                obtain rfl := (HB1.out).1 (by rintro (⟨h, _⟩ | ⟨_, h⟩); omega; (exact kp h))
                obtain rfl := (HB2b.out).1 (by rintro (⟨h, _⟩ | ⟨_, h⟩); omega; (exact kp h))
                clear HB1 HB2b hX8 hY8 hZ8 kp k1 k2 k1'
                go_wp2_with fail
                go_quiet (fail)
                go_wp2_with fail
                go_roundw
                case rel => exact ⟨j + 1, by omega, by go_num, below_drewN HBR.out _⟩
                case measure => (simp [intOf]; try omega)
            · have k2' : (d.kind == 2) = false := by simp [k2]
              obtain rfl := (HB1.out).1 (by omega)
              obtain rfl := (HB2b.out).1 (by omega)
              clear HB1 HB2b hX8 hY8 hZ8 k1 k2
              go_wp2_with fail
              go_quiet (fail)
              go_wp2_with fail
              go_roundw
              case rel => exact ⟨j + 1, by omega, by go_num, below_drewN HBR.out _⟩
              case measure => (simp [intOf]; try omega)
        · clear hb
          go_wp2_with fail
          go_ret
          exact ⟨rfl, HB13.out.trans (HBR.out.mono HB13.out.size)⟩
  · have HE0 := Lib.hid t0
    rw [resIf_ne t0] at cD cT
    have u2 : (E != 0) = true := by simp [t0]
    clear t0
    go_enter Try.func5, Try.ntmps5
    go_wp2_with (first
      | (go_at_call 9; refine (cB.out _).mono ?_; rintro e w3 ⟨rfl, hb3⟩
         have HB3 := Lib.hid (HB2.out.trans (hb3.mono HB2.out.size))
         have f3 := (hb3.cell (p := ⟨w.heap.size, 0, none⟩) (by have := HZ2.out; simp; omega)).trans f1
         have p0 := (hb3.cell (p := ⟨w1.heap.size, 0, none⟩) (by have := HZ2.out; simp; omega)).trans d0
         have p1 := (hb3.cell (p := ⟨w1.heap.size, 1, none⟩) (by have := HZ2.out; simp; omega)).trans d1
         have p2 := (hb3.cell (p := ⟨w1.heap.size, 2, none⟩) (by have := HZ2.out; simp; omega)).trans d2
         obtain ⟨w4, hw4⟩ : ∃ x, x = w3.alloc (.cells #[.int .i64 d.kind, .int .i64 d.at_, .int .i64 d.value] 32) := ⟨_, rfl⟩
         have hb4 : Below w3.heap.size w3 w4 := hw4 ▸ (Below.refl _ _).alloc (Nat.le_refl _) _
         have hd4 := deds_block (l := [d]) (show w4.heap[w3.heap.size]? = _ from hw4 ▸ heap_alloc_new _ _) rfl (by simp)
         have HB4 := Lib.hid (HB3.out.trans (hb4.mono HB3.out.size))
         have CD := Lib.hid (cD.out _ _ HB4.out hd4)
         have f4 := (hb4.cell (p := ⟨w.heap.size, 0, none⟩) (cell_lt' f3)).trans f3
         have q0 := (hb4.cell (p := ⟨w1.heap.size, 0, none⟩) (cell_lt' p0)).trans p0
         have q1 := (hb4.cell (p := ⟨w1.heap.size, 1, none⟩) (cell_lt' p1)).trans p1
         have q2 := (hb4.cell (p := ⟨w1.heap.size, 2, none⟩) (cell_lt' p2)).trans p2
         have hw4' := hw4.symm
         clear hb3 hw4 hb4 hd4)
      | (go_at_call 10; with_reducible refine (CD.out).mono ?_; rintro e w5 ⟨hb5, a, rfl, hr5⟩
         obtain ⟨w6, hw6⟩ : ∃ x, x = w5.alloc (.cells #[.slice a.a a.bl.length a.c] 24) := ⟨_, rfl⟩
         obtain ⟨a6, _, hz6, hb6⟩ := box_new hw6
         have hw6' := hw6.symm
         have hb46 := hb5.trans (hb6.mono hb5.size)
         have f6 := (hb46.cell (p := ⟨w.heap.size, 0, none⟩) (cell_lt' f4)).trans f4
         have r0 := (hb46.cell (p := ⟨w1.heap.size, 0, none⟩) (cell_lt' q0)).trans q0
         have r1 := (hb46.cell (p := ⟨w1.heap.size, 1, none⟩) (cell_lt' q1)).trans q1
         have r2 := (hb46.cell (p := ⟨w1.heap.size, 2, none⟩) (cell_lt' q2)).trans q2
         have hal : a.bl.length = 0 := by rw [hr5.is]; rfl
         rw [hal] at hw6' a6
         have HB6 := Lib.hid (HB4.out.trans (hb46.mono HB4.out.size))
         clear hw6 hz6 hb5 hb6 hr5 hb46)
      | (go_at_call 14; refine (cT.out _ HB6.out).mono ?_; rintro e w7 ⟨hb7, b, rfl, hr7⟩
         obtain ⟨w8, hw8⟩ : ∃ x, x = w7.alloc (.cells #[.slice b.a b.bl.length b.c] 24) := ⟨_, rfl⟩
         obtain ⟨b8, _, hz8, hb8⟩ := box_new hw8
         have hw8' := hw8.symm
         have hb68 := hb7.trans (hb8.mono hb7.size)
         have hbl : b.bl.length = 0 := by rw [hr7.is]; rfl
         rw [hbl] at hw8' b8
         have a8 := (hb68.cell (p := ⟨w5.heap.size, 0, none⟩) (cell_lt' a6)).trans a6
         have HB8 := Lib.hid (HB6.out.trans (hb68.mono HB6.out.size))
         clear hw8 hz8 hb7 hb8 hr7 hb68))
    all_goals go_ret
    all_goals exact ⟨by first | rfl | simp, HB8.out⟩

set_option maxRecDepth 100000 in
theorem flashBits_lifted (os : Os) (started : os.Started) (H : Type) (enc : TypeId × Value → H) :
    ReturnsInHanded {} Try.checked os 5 .any (Rows.flashBitsSpec.pre6 enc Try.prog Try.f5 Rows.flashBitsRow.domain false) (Rows.flashBitsSpec.post enc Try.prog Try.f5 false true false false) := by
  refine returnsInHanded_of_change_sized (C := Try.checked) Try.own started (by kernel_rfl) Try.func5
    (ChangeSpec.witness6 (enc := enc) (C := Try.checked) false ⟨#[], #[.agg #[.slice none 0 0], .agg #[.int .i64 0, .int .i64 0, .int .i64 0], .string ⟨#[]⟩], []⟩ 8 (by kernel_rfl) (by kernel_rfl) (by kernel_rfl) (by kernel_rfl)) ?_
  intro W base args ds gs before hval0 hW hcnd hsz0 _
  have hval : ∀ (j : Nat) t v, Try.f5.params[j]? = some t → args[j]? = some v → Value.okWide Try.prog W .any base t v := hval0
  have hsz : (DataW.weightsEach Try.prog (Try.f5.params.toList ++ Rows.flashBitsSpec.plain.varTypes Try.prog) (ds ++ gs)).all (· ≤ reachBytes) = true := hsz0
  have hW' := hW
  obtain ⟨p, q, hA0, hV, rfl, hfz, hnd⟩ := hW
  have hA : DataW.TrodAll enc Try.prog W 0 (fun _ => true) true Try.f5.params.toList args.toList ds p := hA0
  rw [Try.params5] at hA hval hsz
  obtain ⟨v0, vs0, d0, ds0, p0, q0, hargs, rfl, rfl, h0, r0⟩ := trodAll_cons hA
  obtain ⟨v1, vs1, d1, ds1, p1, q1, rfl, rfl, rfl, h1, r1⟩ := trodAll_cons r0
  obtain ⟨v2, vs2, d2, ds2, p2, q2, rfl, rfl, rfl, h2, r2⟩ := trodAll_cons r1
  obtain ⟨rfl, rfl, rfl⟩ := trodAll_nil r2
  obtain rfl : args = #[v0, v1, v2] := by cases args; simp_all
  obtain ⟨rfl, rfl⟩ := trodVars_none hV
  have ft0 := fits_each hsz (j := 0) rfl rfl
  obtain ⟨f, rfl, ok0⟩ := open_Flash (hval 0 24 v0 rfl rfl) h0 ft0
  have ft1 := fits_each hsz (j := 1) rfl rfl
  obtain ⟨d, rfl, ok1⟩ := open_Deed (hval 1 32 v1 rfl rfl) h1 ft1
  obtain ⟨s, rfl, rfl, rfl, w2⟩ := open_string Try.underlying9 (hval 2 9 v2 rfl rfl) h2
  have z2 : s.size ≤ 140737488351232 := by have := sized_string hsz (j := 2) (t := 9) rfl rfl; simpa [reachBytes] using this
  refine (FlashBits_any f d s W ok0 ok1 z2).mono fun e W' ⟨he, hb⟩ => ?_
  subst he
  exact ⟨_, rfl, law_post Try.laidOut hW' rfl (by decide +kernel) rfl Try.underlying4 rfl rfl rfl hb⟩

theorem flashBits_holds : Rows.FlashBitsSaid :=
  OpenClaim.holds_of_wide 5 Try.f5 rfl rfl rfl rfl rfl rfl rfl ⟨rfl, rfl, rfl, rfl, rfl⟩ rfl rfl rfl rfl rfl (by kernel_rfl) Try.func5 (by kernel_rfl)
    (of_decide_eq_true (by kernel_rfl)) (by unfold Func.isWrapper; first | (rw [if_pos (by decide +kernel)]; kernel_rfl) | (rw [if_neg (by decide +kernel)]; exact ⟨rfl, rfl⟩))
    (fun os started H enc _ => flashBits_lifted os started H enc)
#print axioms flashBits_holds

end Go.Proofs.Ytpmjgkngkaleeaa
