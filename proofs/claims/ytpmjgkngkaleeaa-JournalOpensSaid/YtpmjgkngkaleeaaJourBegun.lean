import Derived.Test.YtpmjgkngkaleeaaJourAppW
import Derived.Test.YtpmjgkngkaleeaaFlSameW
/- What must be in any case of journals: the laws' journalBegun. -/
namespace Go.Proofs.Ytpmjgkngkaleeaa
open Go.RowKit

/-- behind a record that was put there it is there -/
theorem open_after {f : List ByteArray} {s : List UInt8} (h : appErr f s.length = 0) :
    flErr (doneL f (appDeeds f s)) = 0 ∧ (doneL f (appDeeds f s)).length = f.length ∧ openErr (doneL f (appDeeds f s)) = 0 ∧ openRecs (doneL f (appDeeds f s)) = openRecs f ++ [ofBytes s] ∧ 0 < (appDeeds f s).length := by
  obtain ⟨k, r, e0, e, ho, hf, hd⟩ := app_fits h
  have hall := all_done hf ho
  rw [← hd] at hall
  obtain ⟨h1, h2⟩ := doneL_ok hf.ok (l := appDeeds f s) (by rw [hd]; exact addD_ok hf)
  refine ⟨h1, h2, ?_, ?_, ?_⟩
  · unfold openErr; rw [if_pos h1, hall]
  · unfold openRecs; rw [if_pos h1, if_pos hf.ok, hall, ho.load]
  · rw [hd]; unfold addD; rw [List.length_append, List.length_singleton]; omega
def rec0 : ByteArray := ⟨#[115, 111, 109, 101, 32, 114, 101, 99, 111, 114, 100]⟩
def jf0 : List ByteArray := List.replicate 3 blank
def jf1 : List ByteArray := doneL jf0 (appDeeds jf0 (bytesOf rec0))
theorem jf_new : fmtErr 3 = 0 := by kernel_rfl
theorem jf_ok0 : flErr jf0 = 0 := by kernel_rfl
theorem jf_app : appErr jf0 (bytesOf rec0).length = 0 := by
  have hl : (flat jf0).length = 384 := flat_len jf_ok0
  have h1 : addErr (flat jf0) 11 = 0 := by
    unfold addErr
    rw [show jload (flat jf0) = some (0, [], 0) from load_blank 3]
    simp only
    rw [hl, if_neg (by decide)]
  have h2 : (bytesOf rec0).length = 11 := rfl
  rw [h2]
  unfold appErr
  rw [if_pos jf_ok0, if_neg (by decide), if_neg (by decide)]
  exact h1
theorem jf_open0 : openErr jf0 = 0 ∧ openRecs jf0 = [] := by
  unfold openErr openRecs
  rw [if_pos jf_ok0, if_pos jf_ok0, show jload (flat jf0) = some (0, [], 0) from load_blank 3]
  exact ⟨rfl, rfl⟩
theorem jf_open1 : flErr jf1 = 0 ∧ openErr jf1 = 0 ∧ openRecs jf1 = [rec0] ∧ 0 < (appDeeds jf0 (bytesOf rec0)).length := by
  obtain ⟨h1, _, h3, h4, h5⟩ := open_after jf_app
  refine ⟨h1, h3, ?_, h5⟩
  unfold jf1
  rw [h4, jf_open0.2, of_bytes]; rfl

set_option maxHeartbeats 4000000 in
set_option maxRecDepth 100000 in
theorem journalBegun_any (w : World) : Calls Try.prog 25 #[] w fun e w' => e = .returned (.bool true) ∧ Below w.heap.size w w' := by
  have cN := Format_any 3 w
  rw [jf_new, resIf_zero rfl, show List.replicate (3 : Int).toNat blank = jf0 from rfl] at cN
  have CN := Lib.hid cN
  clear cN
  obtain ⟨R0, hR0⟩ : ∃ R, R = rec0 := ⟨_, rfl⟩
  have HR0 := Lib.hid hR0
  clear hR0
  go_enter Try.func25, Try.ntmps25
  go_upto_region 5 with (first
    | (go_at_call 26; refine (CN.out).mono ?_; rintro e w1 ⟨hb1, f1, rfl, hr1⟩
       obtain ⟨w2, hw2⟩ : ∃ x, x = w1.alloc (.cells #[.slice f1.a f1.bl.length f1.c] 24) := ⟨_, rfl⟩
       obtain ⟨y2, _, hz2, hb2⟩ := box_new hw2
       have hw2' := hw2.symm
       have hO2 := (hr1.ok (.inr jf_ok0)).below hb2
       have cA := Append_any f1 rec0 w2 hO2 (by decide)
       have ha := jf_app
       rw [bytes_length] at ha
       rw [hr1.is, ha] at cA
       have CA := Lib.hid cA
       have HB2 := Lib.hid (hb1.trans (hb2.mono hb1.size))
       have HO2 := Lib.hid hO2
       have HF1 := Lib.hid hr1.is
       clear hw2 hz2 hb1 hb2 hr1 hO2 cA ha)
    | (go_at_call 23; refine (CA.out).mono ?_; rintro e w3 ⟨hb3, f3, A3, c3, D3, rfl, hr3, hO3, hD3⟩
       have hfr : f3.bl = jf1 := by
         rw [hr3.is]; unfold appRes; rw [jf_app, resIf_zero rfl]; rfl
       have hdl : 0 < D3.length := by
         rw [hD3]; unfold appDs; rw [if_pos jf_app]; exact jf_open1.2.2.2
       obtain ⟨w4, hw4⟩ : ∃ x, x = w3.alloc (.cells #[.slice f3.a f3.bl.length f3.c] 24) := ⟨_, rfl⟩
       obtain ⟨x4, _, hz4, hb4⟩ := box_new hw4
       have hw4' := hw4.symm
       have hb24 := hb3.trans (hb4.mono hb3.size)
       have y4 := (hb24.cell (p := ⟨w1.heap.size, 0, none⟩) (cell_lt' y2)).trans y2
       have hO4 := (hr3.ok (by rw [← hr3.is, hfr]; exact .inr jf_open1.1)).below hb4
       have cO := Open_any f3 w4 hO4
       rw [hfr, jf_open1.2.1, jf_open1.2.2.1] at cO
       have CO := Lib.hid cO
       have HB4 := Lib.hid (HB2.out.trans (hb24.mono HB2.out.size))
       have HO4 := Lib.hid (HO2.out.below hb24)
       have HDL := Lib.hid hdl
       clear hw4 hz4 hb3 hb4 hr3 hO3 hD3 hfr hdl hb24 hO4 cO CA y2)
    | (go_at_call 24; (with_reducible refine (CO.out).mono ?_); rintro e w5 ⟨hb5, A5, c5, R5, rfl, hO5, hR5⟩
       have y5 := (hb5.cell (p := ⟨w1.heap.size, 0, none⟩) (cell_lt' y4)).trans y4
       have cO := Open_any f1 w5 (HO4.out.below hb5)
       rw [HF1.out, jf_open0.1, jf_open0.2] at cO
       have CP := Lib.hid cO
       have HO5 := Lib.hid hO5
       have HR5 := Lib.hid hR5
       have HB5 := Lib.hid (HB4.out.trans (hb5.mono HB4.out.size))
       clear hb5 hO5 hR5 cO CO y4)
    | (go_at_call 24; (with_reducible refine (CP.out).mono ?_); rintro e w6 ⟨hb6, A6, c6, R6, rfl, hO6, hR6⟩
       have HO6 := Lib.hid (HO5.out.below hb6 (Nat.le_refl _))
       have HB6 := Lib.hid (HB5.out.trans (hb6.mono HB5.out.size))
       have hR60 : R6.length = 0 := by rw [hR6]; rfl
       clear hb6 hO6 hR6))
  obtain ⟨W6, hW6⟩ : ∃ x, x = w6.alloc (.cells #[.string rec0] 9) := ⟨_, rfl⟩
  have hb7 : Below w6.heap.size w6 W6 := hW6 ▸ (Below.refl _ _).alloc (Nat.le_refl _) _
  have hr7 : Row strCells 1 W6 (some ⟨w6.heap.size, 0, none⟩) [rec0] := row_block (enc := strCells) (k := 1) (fun _ => rfl) (hW6 ▸ heap_alloc_new _ _) rfl
  obtain ⟨A', c', e', hrow, _⟩ := TOwn.form (HO6.out.below hb7 (Nat.le_refl _))
  injection e' with ea eb ec
  subst ea ec
  have cS := SameTexts_any A5 (some ⟨w6.heap.size, 0, none⟩) c5 1 R5 [rec0] W6 hrow hr7 (by rw [HR5.out]; decide) (by decide)
  rw [HR5.out, show decide (([rec0] : List ByteArray) = [rec0]) = true from decide_eq_true rfl] at cS
  have hR51 : R5.length = 1 := by rw [HR5.out]; rfl
  have HWB := Lib.hid (HB6.out.trans (hb7.mono HB6.out.size))
  have hW6' := hW6.symm
  change Calls _ _ #[.slice A5 1 c5, .slice _ 1 1] _ _ at cS
  have CS := Lib.hid cS
  have hdl := HDL.out
  unfold rec0 at hW6'
  clear hW6 hb7 hr7 hrow cS eb
  go_wp2_with (go_at_call 27; go_loud ((with_reducible refine (CS.out).mono ?_); rintro e w7 ⟨rfl, hb7⟩))
  go_ret
  exact ⟨by first | rfl | simp, HWB.out.trans (hb7.mono HWB.out.size)⟩

end Go.Proofs.Ytpmjgkngkaleeaa
