import Derived.Test.YtpmjgkngkaleeaaFlNewW
/- What must be in any case of flashes: the laws' flashBegun. -/
namespace Go.Proofs.Ytpmjgkngkaleeaa
open Go.RowKit

theorem FlRes.ok {w : World} {base : Nat} {f : Fl} {l : List ByteArray} (h : FlRes w base f l) (hl : l = [] ∨ flErr l = 0) : f.ok w := by
  refine ⟨?_, h.cap⟩
  have e := h.is
  rcases hl with rfl | hf
  · obtain ⟨A', c', e2, hr, hc⟩ := TOwn.form h.own
    injection e2 with e1 _ _
    rw [e] at hr ⊢
    rw [e1]
    exact ⟨hr, Nat.zero_le _, fun s hs => by cases hs⟩
  · exact TOwn.texts h.own (by rw [e]; exact hf)
theorem row_block {α : Type} {enc : α → List Value} {k : Nat} (hk : ∀ x, (enc x).length = k) {w : World} {g : Nat} {cs : Array Value} {t : TypeId} {fr : Nat × Nat} {l : List α} (h : w.heap[g]? = some (.cells cs t fr)) (e : cs.toList = l.flatMap enc) : Row enc k w (some ⟨g, 0, none⟩) l := by
  refine ⟨flat_length hk l, fun _ => ⟨_, rfl, (Array.getElem?_eq_some_iff.1 h).1, fun j u hu => ?_⟩⟩
  rw [show (⟨g, 0, none⟩ : Addr).add j = ⟨g, j, none⟩ from by unfold Addr.add; split <;> simp_all, cell_of_heap h j, ← hu, ← e]
  simp
theorem deds_block {w : World} {g : Nat} {cs : Array Value} {t : TypeId} {fr : Nat × Nat} {l : List Ded} (h : w.heap[g]? = some (.cells cs t fr)) (e : cs.toList = l.flatMap Ded.cells) (hl : l.length ≤ 1000) : DedsOk w (some ⟨g, 0, none⟩) l :=
  ⟨row_block (enc := Ded.cells) (k := 3) (fun _ => rfl) h e, by unfold big; omega⟩

def beg0 : List ByteArray := List.replicate 2 blank
def begL : List Ded := [⟨1, 129, 15⟩, ⟨1, 129, 60⟩]
def beg1 : List ByteArray := doneL beg0 begL
def beg2 : List ByteArray := tornL beg1 ⟨2, 1, 0⟩ [255, 1]
theorem beg_new : newErr 2 = 0 := by kernel_rfl
theorem beg_f0 : flErr beg0 = 0 := by kernel_rfl
theorem beg_do : dedsErr beg0 begL = 0 := by kernel_rfl
theorem beg_f1 : flErr beg1 = 0 := by kernel_rfl
theorem beg_r1 : readErr beg1 128 3 = 0 := by kernel_rfl
theorem beg_s1 : readStr beg1 128 3 = ⟨#[255, 12, 255]⟩ := by kernel_rfl
theorem beg_torn : dedsErr beg1 [⟨2, 1, 0⟩] = 0 := by kernel_rfl
theorem beg_f2 : flErr beg2 = 0 := by kernel_rfl
theorem beg_r2 : readErr beg2 129 1 = 0 := by kernel_rfl
theorem beg_s2 : readStr beg2 129 1 = ⟨#[13]⟩ := by kernel_rfl

set_option maxHeartbeats 4000000 in
set_option maxRecDepth 100000 in
theorem flashBegun_any (w : World) : Calls Try.prog 9 #[] w fun e w' => e = .returned (.bool true) ∧ Below w.heap.size w w' := by
  have cN := Lib.hid (New_any 2 w)
  rw [beg_new, resIf_zero rfl, show List.replicate (2 : Int).toNat blank = beg0 from rfl] at cN
  go_enter Try.func9, Try.ntmps9
  go_wp2_with (first
    | (go_at_call 13; refine (cN.out).mono ?_; rintro e w1 ⟨hb1, f1, rfl, hr1⟩
       have hf1 := hr1.is
       obtain ⟨w2, hw2⟩ : ∃ x, x = w1.alloc (.cells #[.slice f1.a f1.bl.length f1.c] 24) := ⟨_, rfl⟩
       obtain ⟨y2, _, hz2, hb2⟩ := box_new hw2
       have hw2' := hw2.symm
       obtain ⟨w3, hw3⟩ : ∃ x, x = w2.alloc (.cells #[.int .i64 1, .int .i64 129, .int .i64 15, .int .i64 1, .int .i64 129, .int .i64 60] 32) := ⟨_, rfl⟩
       have hw3' := hw3.symm
       have hD3 := deds_block (l := begL) (show w3.heap[w2.heap.size]? = _ from hw3 ▸ heap_alloc_new _ _) rfl (by decide)
       have hb3 : Below w2.heap.size w2 w3 := hw3 ▸ (Below.refl _ _).alloc (Nat.le_refl _) _
       have hO3 : f1.ok w3 := (((hr1.ok (.inr beg_f0)).below hb2).below hb3)
       rw [hz2] at hD3
       have cD := Do_any f1 (some ⟨w1.heap.size + 1, 0, none⟩) 2 begL w3 hO3 hD3
       rw [hf1, beg_do, resIf_zero rfl] at cD
       change Calls _ _ #[_, .slice _ 2 2] _ (fun e w' => _ ∧ ∃ f' : Fl, _ ∧ FlRes w' _ f' beg1) at cD
       have CD := Lib.hid cD
       have HB3 := Lib.hid ((hb1.trans (hb2.mono hb1.size)).trans (hb3.mono (by have := hb1.size; have := hb2.size; omega)))
       have HF1 := Lib.hid hf1
       clear hw2 hw3 hD3 hb3 hb2 hb1 hr1 hf1 cD hO3)
    | (go_at_call 10; refine (CD.out).mono ?_; rintro e w4 ⟨hb4, f4, rfl, hr4⟩
       have hf4 := hr4.is
       obtain ⟨w5, hw5⟩ : ∃ x, x = w4.alloc (.cells #[.slice f4.a f4.bl.length f4.c] 24) := ⟨_, rfl⟩
       obtain ⟨y5, _, hz5, hb5⟩ := box_new hw5
       have hw5' := hw5.symm
       have hO5 := (hr4.ok (.inr beg_f1)).below hb5
       have cR := Read_any f4 128 3 w5 hO5 (by omega) (by omega)
       rw [hf4, beg_r1, beg_s1] at cR
       have CR := Lib.hid cR
       have HB5 := Lib.hid (HB3.out.trans ((hb4.trans (hb5.mono hb4.size)).mono HB3.out.size))
       have HO5 := Lib.hid hO5
       have HF4 := Lib.hid hf4
       clear hw5 hb4 hb5 hr4 hf4 hO5 cR)
    | (go_at_call 12; with_reducible refine (CR.out).mono ?_; rintro e w6 ⟨rfl, hb6⟩
       have hO6 := HO5.out.below hb6
       have cT := Torn_any f4 2 1 0 ⟨#[255, 1]⟩ w6 hO6 (by decide)
       rw [HF4.out, beg_torn, resIf_zero rfl] at cT
       change Calls _ _ _ _ (fun e w' => _ ∧ ∃ f' : Fl, _ ∧ FlRes w' _ f' beg2) at cT
       have CT := Lib.hid cT
       have y6 := (hb6.cell (p := ⟨w4.heap.size, 0, none⟩) (by simp; omega)).trans y5
       have HO6 := Lib.hid hO6
       have HB6 := Lib.hid (HB5.out.trans (hb6.mono HB5.out.size))
       have HZ6 := Lib.hid (show w4.heap.size < w6.heap.size by have := hb6.size; omega)
       clear hb6 hO6 cT CR)
    | (go_at_call 14; refine (CT.out).mono ?_; rintro e w7 ⟨hb7, f7, rfl, hr7⟩
       have hf7 := hr7.is
       obtain ⟨w8, hw8⟩ : ∃ x, x = w7.alloc (.cells #[.slice f7.a f7.bl.length f7.c] 24) := ⟨_, rfl⟩
       obtain ⟨y8, _, hz8, hb8⟩ := box_new hw8
       have hw8' := hw8.symm
       have hO8 := (hr7.ok (.inr beg_f2)).below hb8
       have hb78 := hb7.trans (hb8.mono hb7.size)
       have cS := Read_any f7 129 1 w8 hO8 (by omega) (by omega)
       rw [hf7, beg_r2, beg_s2] at cS
       have CS := Lib.hid cS
       have v8 := (hb78.cell (p := ⟨w4.heap.size, 0, none⟩) HZ6.out).trans y6
       have HB8 := Lib.hid (HB6.out.trans (hb78.mono HB6.out.size))
       have HO8 := Lib.hid (HO6.out.below hb78)
       have HZ8 := Lib.hid (show w4.heap.size < w8.heap.size by have := hb78.size; have := HZ6.out; omega)
       clear hw8 hb7 hb8 hr7 hf7 hO8 cS hb78)
    | (go_at_call 12; with_reducible refine (CS.out).mono ?_; rintro e w9 ⟨rfl, hb9⟩
       have v9 := (hb9.cell (p := ⟨w4.heap.size, 0, none⟩) HZ8.out).trans v8
       have cC := Check_any f4 w9 (HO8.out.below hb9)
       rw [HF4.out, beg_f1] at cC
       have CC := Lib.hid cC
       have HB9 := Lib.hid (HB8.out.trans (hb9.mono HB8.out.size))
       clear hb9 cC)
    | (go_at_call 21; refine (CC.out).mono ?_; rintro e w10 ⟨rfl, hb10⟩))
  go_ret
  exact ⟨rfl, HB9.out.trans (hb10.mono HB9.out.size)⟩

end Go.Proofs.Ytpmjgkngkaleeaa
