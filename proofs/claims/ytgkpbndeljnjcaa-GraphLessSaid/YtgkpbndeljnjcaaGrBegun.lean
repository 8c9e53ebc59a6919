import Derived.Test.YtgkpbndeljnjcaaGrSortW
import Derived.Test.YtgkpbndeljnjcaaRGrW
import Derived.Test.YtgkpbndeljnjcaaLits
/- graphBegun returns true. -/
namespace Go.Proofs.Ytgkpbndeljnjcaa
open Go.RowKit
open Gs (Tx)

abbrev pairG (a1 a2 a3 b1 b2 b3 : Option Addr) (a4 a5 a6 b4 b5 b6 : Nat) : List Plc := [⟨appM a1 a2 a3 a4 a5 a6, 1⟩, ⟨libM b1 b2 b3 b4 b5 b6, 4⟩]
abbrev appT : Tx := [97, 112, 112]
abbrev libT : Tx := [108, 105, 98]
section
variable (a1 a2 a3 b1 b2 b3 : Option Addr) (a4 a5 a6 b4 b5 b6 : Nat)
theorem begun_ms : Gs.msort (txs (pairG a1 a2 a3 b1 b2 b3 a4 a5 a6 b4 b5 b6)) = [appT, libT] := by
  have e : txs (pairG a1 a2 a3 b1 b2 b3 a4 a5 a6 b4 b5 b6) = [appT, libT] := rfl
  rw [e]
  exact (Gs.eq_msort (List.Perm.refl _) (by unfold Gs.sorted; decide)).symm
theorem begun_gr : grErr (pairG a1 a2 a3 b1 b2 b3 a4 a5 a6 b4 b5 b6) = 0 := by
  unfold grErr
  have h1 : modsAll anyQ (pairG a1 a2 a3 b1 b2 b3 a4 a5 a6 b4 b5 b6) = 0 := by kernel_rfl
  have h2 : isTwice (pairG a1 a2 a3 b1 b2 b3 a4 a5 a6 b4 b5 b6) = false := by
    cases e : isTwice (pairG a1 a2 a3 b1 b2 b3 a4 a5 a6 b4 b5 b6)
    · rfl
    · rw [twice_nodup] at e
      exact absurd (show [appT, libT].Nodup by decide) e
  rw [h1, h2]; rfl
theorem begun_of1 : ofErr (pairG a1 a2 a3 b1 b2 b3 a4 a5 a6 b4 b5 b6) ⟨#[97, 112, 112]⟩ = 0 := by
  unfold ofErr; rw [begun_gr]; kernel_rfl
theorem begun_of2 : ofErr (pairG a1 a2 a3 b1 b2 b3 a4 a5 a6 b4 b5 b6) ⟨#[108, 105, 98]⟩ = 0 := by
  unfold ofErr; rw [begun_gr]; kernel_rfl
theorem begun_needs : needsT (pairG a1 a2 a3 b1 b2 b3 a4 a5 a6 b4 b5 b6) ⟨#[97, 112, 112]⟩ = [libT] := by
  unfold needsT reachT; rw [begun_of1, begun_ms]; kernel_rfl
theorem begun_users : usersT (pairG a1 a2 a3 b1 b2 b3 a4 a5 a6 b4 b5 b6) ⟨#[108, 105, 98]⟩ = [appT] := by
  unfold usersT reachT; rw [begun_of2, begun_ms]; kernel_rfl
theorem begun_sorted : sortedT (pairG a1 a2 a3 b1 b2 b3 a4 a5 a6 b4 b5 b6) = some [libT, appT] := by
  unfold sortedT; rw [begun_ms]; kernel_rfl
theorem begun_oerr : orderErr (pairG a1 a2 a3 b1 b2 b3 a4 a5 a6 b4 b5 b6) = 0 := by
  unfold orderErr; rw [begun_gr, begun_sorted]; rfl
theorem begun_order : orderT (pairG a1 a2 a3 b1 b2 b3 a4 a5 a6 b4 b5 b6) = [libT, appT] := by
  unfold orderT; rw [begun_oerr, begun_sorted]; rfl
end

theorem same_lit (A : Option Addr) (c n m : Nat) (L : List Tx) (hm : L.length = m) (cs : Array Value) (hcs : cs.toList = (L.map bs).flatMap strCells) (W : World) (h : TxRow W A L) (hl : L.length ≤ big) :
    Calls Try.prog 18 #[.slice A m c, .slice (some ⟨W.heap.size, 0, none⟩) m n] (W.alloc (.cells cs 9)) fun e w' => e = .returned (.bool true) ∧ Below W.heap.size W w' := by
  subst hm
  have hb := (Below.refl W.heap.size W).alloc (Nat.le_refl _) (.cells cs 9)
  have := SameTexts_any A (some ⟨W.heap.size, 0, none⟩) c n L L (W.alloc (.cells cs 9)) (h.below hb) (row_block (enc := strCells) (k := 1) (fun _ => rfl) (heap_alloc_new W _) hcs) hl hl
  refine this.mono ?_
  rintro e w' ⟨he, hb'⟩
  exact ⟨by rw [he]; simp, hb.trans (hb'.mono hb.size)⟩

set_option maxHeartbeats 4000000 in
set_option maxRecDepth 100000 in
theorem graphBegun_any (w : World) : Calls Try.prog 17 #[] w fun e w' => e = .returned (.bool true) ∧ Below w.heap.size w w' := by
  go_enter Try.func17, Try.ntmps17
  go_wp2_with fail
  refine (pair_any _).mono ?_; rintro e w2 ⟨⟨A2, c2, a1, a2, a3, a4, a5, a6, b1, b2, b3, b4, b5, b6, rfl, hl2⟩, hb2⟩
  have f1 := Lib.hid (Needs_any A2 c2 (pairG a1 a2 a3 b1 b2 b3 a4 a5 a6 b4 b5 b6) ⟨#[97, 112, 112]⟩ w2 hl2)
  rw [begun_needs, begun_of1] at f1
  have HB2 := Lib.hid hb2
  clear hl2 hb2
  go_wp2_with fail
  refine (f1.out).mono ?_; rintro e w3 ⟨⟨v3, rfl, ht3⟩, hb3⟩
  obtain ⟨A3, c3, rfl, hr3⟩ := ht3.form
  have HR3 := Lib.hid hr3
  have HB3 := Lib.hid (HB2.out.trans (hb3.mono HB2.out.size))
  clear ht3 hr3 hb3 f1
  go_wp2_with fail
  refine (pair_any _).mono ?_; rintro e w4 ⟨⟨A4, c4, d1, d2, d3, d4, d5, d6, e1, e2, e3, e4, e5, e6, rfl, hl4⟩, hb4⟩
  have f2 := Lib.hid (Users_any A4 c4 (pairG d1 d2 d3 e1 e2 e3 d4 d5 d6 e4 e5 e6) ⟨#[108, 105, 98]⟩ w4 hl4)
  rw [begun_users, begun_of2] at f2
  have HB4 := Lib.hid hb4
  clear hl4 hb4
  go_wp2_with fail
  refine (f2.out).mono ?_; rintro e w5 ⟨⟨v5, rfl, ht5⟩, hb5⟩
  obtain ⟨A5, c5, rfl, hr5⟩ := ht5.form
  have HR5 := Lib.hid hr5
  have HB5 := Lib.hid (HB4.out.trans (hb5.mono HB4.out.size))
  clear ht5 hr5 hb5 f2
  go_wp2_with fail
  refine (pair_any _).mono ?_; rintro e w6 ⟨⟨A6, c6, g1, g2, g3, g4, g5, g6, h1, h2, h3, h4, h5, h6, rfl, hl6⟩, hb6⟩
  have f3 := Lib.hid (Order_any A6 c6 (pairG g1 g2 g3 h1 h2 h3 g4 g5 g6 h4 h5 h6) w6 hl6)
  rw [begun_order, begun_oerr] at f3
  have HB6 := Lib.hid hb6
  clear hl6 hb6
  go_wp2_with fail
  refine (f3.out).mono ?_; rintro e w7 ⟨⟨v7, rfl, ht7⟩, hb7⟩
  obtain ⟨A7, c7, rfl, hr7⟩ := ht7.form
  have HR7 := Lib.hid hr7
  have HB7 := Lib.hid (HB6.out.trans (hb7.mono HB6.out.size))
  clear ht7 hr7 hb7 f3
  have s1 := Lib.hid (fun W (hb : Below w3.heap.size w3 W) => same_lit A3 c3 1 1 [libT] rfl #[.string ⟨#[108, 105, 98]⟩] rfl W (HR3.out.below hb) (by unfold big; decide))
  have s2 := Lib.hid (fun W (hb : Below w5.heap.size w5 W) => same_lit A5 c5 1 1 [appT] rfl #[.string ⟨#[97, 112, 112]⟩] rfl W (HR5.out.below hb) (by unfold big; decide))
  have s3 := Lib.hid (fun W (hb : Below w7.heap.size w7 W) => same_lit A7 c7 2 2 [libT, appT] rfl #[.string ⟨#[108, 105, 98]⟩, .string ⟨#[97, 112, 112]⟩] rfl W (HR7.out.below hb) (by unfold big; decide))
  have z3 := HB3.out.size
  have z5 := HB5.out.size
  have z7 := HB7.out.size
  go_wp2_with fail
  (with_reducible refine (s1.out _ (HB5.out.trans (HB7.out.mono HB5.out.size))).mono ?_); rintro e w8 ⟨rfl, hb8⟩
  have HB8 := Lib.hid hb8
  clear hb8 s1
  go_wp2_with fail
  (with_reducible refine (s2.out _ (HB7.out.trans (HB8.out.mono HB7.out.size))).mono ?_); rintro e w9 ⟨rfl, hb9⟩
  have HB9 := Lib.hid hb9
  clear hb9 s2
  go_wp2_with fail
  (with_reducible refine (s3.out _ (HB8.out.trans (HB9.out.mono HB8.out.size))).mono ?_); rintro e w10 ⟨rfl, hb10⟩
  have HB10 := Lib.hid hb10
  clear hb10 s3
  go_wp2_with fail
  go_ret
  refine ⟨rfl, ?_⟩
  have z8 := HB8.out.size
  have z9 := HB9.out.size
  exact HB3.out.trans ((HB5.out.mono z3).trans ((HB7.out.mono (by omega)).trans ((HB8.out.mono (by omega)).trans ((HB9.out.mono (by omega)).trans (HB10.out.mono (by omega))))))

end Go.Proofs.Ytgkpbndeljnjcaa
