import Derived.Test.YtpmjgkngkaleeaaFlTornW
import Derived.Laws.Concat
/- The document's AllOf (chapter K): all bytes of a flash. -/
namespace Go.Proofs.Ytpmjgkngkaleeaa
open Go.RowKit

theorem add_text {A B S : ByteArray} (h : bytesOf A ++ bytesOf B = bytesOf S) (hsz : S.size ≤ 100000000) (W : World) : (Op.stringOp .add A B).run Try.prog W = .ok (.string S) W := by
  have hl := congrArg List.length h
  rw [List.length_append, bytes_length, bytes_length, bytes_length] at hl
  rw [run_string_add_sum _ _ _ (by omega)]
  refine congrArg (fun s => Result.ok (Value.string s) W) (bytes_inj ?_)
  rw [← h]
  exact ba_append A B
theorem flat_take (f : List ByteArray) (j : Nat) (h : j < f.length) : flat (f.take (j + 1)) = flat (f.take j) ++ bytesOf f[j] := by
  unfold flat
  rw [List.take_succ_eq_append_getElem h, List.flatMap_append]
  simp

set_option maxHeartbeats 2000000 in
set_option maxRecDepth 100000 in
theorem AllOf_any (f : Fl) (w : World) (h : f.ok w) (hf : flErr f.bl = 0) : Calls Try.prog 18 #[f.v] w fun e w' => e = .returned (.string (ofBytes (flat f.bl))) ∧ Below w.heap.size w w' := by
  obtain ⟨h1, h2⟩ := flErr_ok.1 hf
  obtain ⟨w0, hw0⟩ : ∃ w0, w0 = w.alloc (.cells #[.slice f.a f.bl.length f.c] 24) := ⟨_, rfl⟩
  obtain ⟨f0, hz0, hb0⟩ := box1 hw0
  have hw0' := hw0.symm
  have HB0 := Lib.hid hb0
  have HROW := Lib.hid h.row.row
  have H2 := Lib.hid h2
  have hln : f.bl.length ≤ 32 := h1.2
  clear hw0 hb0 h hf h1 h2 hz0
  go_enter Try.func18, Try.ntmps18
  go_wp2_with fail
  go_loopw [3, 4] (fun v i wr => ∃ j : Nat, j ≤ f.bl.length ∧ i = .int .i64 j ∧ v = .string (ofBytes (flat (f.bl.take j))) ∧ w0 = wr) (fun _ i _ => f.bl.length - (intOf i).toNat)
  case atStart => exact ⟨0, by omega, rfl, rfl, rfl⟩
  case round =>
    obtain ⟨j, hj, rfl, rfl, rfl⟩ := hrel
    obtain ⟨S, hS⟩ : ∃ S, S = ofBytes (flat (f.bl.take j)) := ⟨_, rfl⟩
    rw [← hS]
    by_cases hlt : j < f.bl.length
    · have hlt' : (j : Int) < f.bl.length := by omega
      obtain ⟨ad, hA, hab, h0⟩ := text_at HROW.out HB0.out j hlt
      have hsz := H2.out _ (List.getElem_mem hlt)
      obtain ⟨T, hT⟩ : ∃ T, T = ofBytes (flat (f.bl.take (j + 1))) := ⟨_, rfl⟩
      obtain ⟨s, hs⟩ : ∃ s, s = f.bl[j]'hlt := ⟨_, rfl⟩
      rw [← hs] at h0 hsz
      have hTz : T.size ≤ 100000000 := by
        rw [hT, ofBytes_size, flat_length' (fun x hx => H2.out x (List.mem_of_mem_take hx)), List.length_take]; omega
      have hadd := add_text (A := S) (B := s) (S := T) (by rw [hS, hT, bytes_of, bytes_of, flat_take f.bl j hlt, hs]) hTz
      have HT := Lib.hid hT
      clear hS hT hs hTz hsz
      go_wp2_with fail
      go_roundw
      case rel => exact ⟨j + 1, by omega, by go_num, by rw [← HT.out], by first | rfl | trivial⟩
      case measure => (simp [intOf]; try omega)
    · have HE := Lib.hid (show S = ofBytes (flat f.bl) by rw [hS, List.take_of_length_le (by omega)])
      clear hS
      go_wp2_with fail
      go_ret
      exact ⟨by rw [HE.out]; rfl, HB0.out⟩

end Go.Proofs.Ytpmjgkngkaleeaa
