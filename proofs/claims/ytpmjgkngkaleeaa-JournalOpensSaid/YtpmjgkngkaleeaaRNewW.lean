import Derived.Test.YtpmjgkngkaleeaaRAllW
import Derived.Test.YtpmjgkngkaleeaaRMixW
/- The document's NewFlash (chapter K). -/
namespace Go.Proofs.Ytpmjgkngkaleeaa
open Go.RowKit

def ffs (j : Nat) : ByteArray := ofBytes (List.replicate j 255)
theorem ffs_step (j : Nat) (hj : j < 128) (W : World) : (Op.stringOp .add (ffs j) ⟨#[255]⟩).run Try.prog W = .ok (.string (ffs (j + 1))) W := by
  refine add_text ?_ ?_ W
  · show bytesOf (ofBytes (List.replicate j 255)) ++ bytesOf ⟨#[255]⟩ = bytesOf (ofBytes (List.replicate (j + 1) 255))
    rw [bytes_of, bytes_of, List.replicate_succ']; rfl
  · show (ofBytes (List.replicate (j + 1) 255)).size ≤ _
    rw [ofBytes_size, List.length_replicate]; omega

set_option maxHeartbeats 4000000 in
set_option maxRecDepth 100000 in
theorem NewFlash_any (n : Nat) (w : World) (hn : n ≤ 32) :
    Calls Try.prog 17 #[.int .i64 n] w fun e w' => Below w.heap.size w w' ∧ ∃ (A' : Option Addr) (c' : Nat), e = .returned (.agg #[.slice A' n c']) ∧ n ≤ c' ∧ TOwn w' w.heap.size (.slice A' n c') (List.replicate n blank) := by
  obtain ⟨w1, hw1⟩ : ∃ w1, w1 = w.alloc (.cells #[.slice none 0 0] 24) := ⟨_, rfl⟩
  obtain ⟨_, hR1, hz1, hb1⟩ := box_new hw1
  obtain ⟨w2, hw2⟩ : ∃ w2, w2 = w1.alloc (.cells #[.slice none 0 0] 24) := ⟨_, rfl⟩
  obtain ⟨_, hF2, hz2, hb2⟩ := box_new hw2
  have hR2 := (hb2.block _ (show w.heap.size < w1.heap.size by omega)).trans hR1
  have hw1' := hw1.symm
  have hw2' := hw2.symm
  have HR2 := Lib.hid hR2
  have HF2 := Lib.hid hF2
  have HB2 := Lib.hid (hb1.trans (hb2.mono (by omega)))
  have HZ := Lib.hid (show w1.heap.size = w.heap.size + 1 ∧ w2.heap.size = w.heap.size + 2 by omega)
  clear hw1 hw2 hb1 hb2 hR1 hF2 hR2 hz1 hz2
  go_enter Try.func17, Try.ntmps17
  go_wp2_with fail
  go_loopw [3, 4] (fun s i wr => ∃ j : Nat, j ≤ 128 ∧ i = .int .i64 j ∧ s = .string (ffs j) ∧ w1 = wr) (fun _ i _ => 128 - (intOf i).toNat)
  case atStart => exact ⟨0, by omega, rfl, rfl, rfl⟩
  case round =>
    obtain ⟨j, hj, rfl, rfl, rfl⟩ := hrel
    by_cases hlt : j < 128
    · have hlt' : (j : Int) < 128 := by omega
      have hadd := ffs_step j hlt
      go_wp2_with fail
      go_roundw
      case rel => exact ⟨j + 1, by omega, by go_num, rfl, by first | rfl | trivial⟩
      case measure => (simp [intOf]; try omega)
    · obtain rfl : j = 128 := by omega
      have hbk : ffs 128 = blank := rfl
      rw [hbk, show ((128 : Nat) : Int) = 128 from rfl]
      obtain ⟨B, hB⟩ : ∃ B, B = blank := ⟨_, rfl⟩
      rw [← hB]
      have HBB := Lib.hid hB
      clear hbk hB
      go_wp2_with fail
      go_loopw [6] (fun i wr => ∃ (j : Nat) (v : Value), j ≤ n ∧ i = .int .i64 j ∧ wr.heap[w1.heap.size]? = some (.cells #[v] 24 (0, 0)) ∧ TOwn wr w2.heap.size v (List.replicate j B) ∧ Below w1.heap.size w2 wr) (fun i _ => n - (intOf i).toNat)
      case atStart => exact ⟨0, _, by omega, rfl, HF2.out, TOwn.nil _ _, Below.refl _ _⟩
      case round =>
        obtain ⟨j, v, hj, rfl, hF, hO, hb⟩ := hrel
        have y0 := cell_of_heap hF 0
        have yf := free_of_heap hF 0
        simp only [List.getElem?_toArray, List.getElem?_cons_zero] at y0
        have HF := Lib.hid hF
        have HO := Lib.hid hO
        have HB := Lib.hid hb
        have HSZ := Lib.hid hb.size
        by_cases hlt : j < n
        · have hlt' : (j : Int) < n := by omega
          clear hF hO hb
          go_wp2_with (at_builtin; refine append_str _ rfl _ _ rfl w2.heap.size v (List.replicate j B) B rfl rfl HO.out (by simp; omega) HSZ.out ?_; intro v' w4 hin4 hb4; have z0 := (hb4.cell (p := ⟨w1.heap.size, 0, none⟩) (by have := HZ.out; simp; omega)).trans y0; have zf := (hb4.frozen (p := ⟨w1.heap.size, 0, none⟩) (by have := HZ.out; simp; omega)).trans yf; rw [← List.replicate_succ'] at hin4; obtain ⟨A4, c4, rfl, _, _⟩ := hin4.form; rw [List.length_replicate] at hin4 ⊢; have H4 := Lib.hid hin4; have HB4 := Lib.hid hb4; clear hin4 hb4)
          go_roundw
          case rel =>
            have hF4 := (HB4.out.block _ (by have := HZ.out; omega)).trans HF.out
            refine ⟨j + 1, _, by omega, by go_num, heap_setCell_same w4 w1.heap.size 0 _ _ (.slice A4 (j + 1) c4) hF4, ?_, ?_⟩
            · exact H4.out.set_other hF4 (by decide) 0 _
            · exact (HB.out.trans (HB4.out.mono (by have := HZ.out; omega))).setCell (p := ⟨w1.heap.size, 0, none⟩) (Nat.le_refl _) _
          case measure => (simp [intOf]; try omega)
        · obtain rfl : j = n := by omega
          have hRr : wr.heap[w.heap.size]? = some (.cells #[.slice none 0 0] 24 (0, 0)) := (hb.block _ (by have := HZ.out; omega)).trans HR2.out
          have v0 := cell_of_heap hRr 0
          have vf := free_of_heap hRr 0
          simp only [List.getElem?_toArray, List.getElem?_cons_zero] at v0
          have HRR := Lib.hid hRr
          obtain ⟨A', c', rfl, _, hc'⟩ := hO.form
          rw [List.length_replicate] at hc' y0
          clear hF hO hb hRr
          go_wp2_with fail
          have hR9 : (wr.setCell ⟨w.heap.size, 0, none⟩ (.slice A' j c')).heap[w.heap.size]? = some (.cells #[.slice A' j c'] 24 (0, 0)) :=
            heap_setCell_same wr w.heap.size 0 _ _ (.slice A' j c') HRR.out
          refine bodyPost_ret (results_cell_row rfl _ _ w.heap.size 24 _ (0, 0) _ rfl hR9 Try.underlying24 rfl Try.sizeFlash) rfl ?_
          have HOO := HO.out
          rw [List.length_replicate] at HOO
          refine ⟨(HB2.out.trans (HB.out.mono (by have := HZ.out; omega))).setCell (p := ⟨w.heap.size, 0, none⟩) (Nat.le_refl _) _, A', c', rfl, hc', ?_⟩
          rw [← HBB.out]
          exact (HOO.set_other HRR.out (by decide) 0 _).more (by have := HZ.out; omega)

end Go.Proofs.Ytpmjgkngkaleeaa
