import Derived.Test.YtpmjgkngkaleeaaFlBytesW
/- Which bits a deed turns that is cut off (chapter K): flash.whole, flash.Torn's closure. -/
namespace Go.Proofs.Ytpmjgkngkaleeaa
open Go.RowKit

theorem whole_any (i : Int) (w : World) : Calls Try.prog 45 #[.int .i64 i] w fun e w' => e = .returned (.int .u8 (255 : Nat)) ∧ w' = w := by
  go_enter Try.func45, Try.ntmps45
  go_wp2_with fail
  go_ret
  exact ⟨rfl, rfl⟩

theorem byte_get (s : ByteArray) (i : Nat) (h : i < s.size) : s[i]'h = (bytesOf s).getD i 0 := by
  rw [List.getD_eq_getElem?_getD, List.getElem?_eq_getElem (by rw [bytes_length]; exact h)]
  simp [bytesOf]
  rfl
theorem run_index_byte (s : ByteArray) (i : Nat) (h : i < s.size) (w : World) : (Instr.index 9 (.string s) (.int .i64 (i : Int))).run Try.prog w = .ok (.int .u8 (((bytesOf s).getD i 0).toNat : Int)) w := by
  rw [run_index_string w 9 s .i64 (i : Int) Try.underlying9, dif_pos (by omega)]
  simp only [Int.toNat_natCast]
  rw [byte_get s i h]

theorem xor_255 (x : UInt8) : bits .xor .u8 IntKind.u8.max (x.toNat : Int) = ((255 - x.toNat : Nat) : Int) := by
  have h := u8_xor_nat 255 x.toNat (by omega) (u8_lt_ x)
  have e : 255 ^^^ x.toNat = 255 - x.toNat := by
    refine byte_ext (Nat.xor_lt_two_pow (n := 8) (by omega) (u8_lt_ x)) (by omega) fun i hi => ?_
    rw [not_bit _ i (u8_lt_ x) hi, Nat.testBit_xor]
    have : (255 : Nat).testBit i = true := by
      rw [show (255 : Nat) = 2 ^ 8 - 1 from rfl, Nat.testBit_two_pow_sub_one]; simp [hi]
    rw [this]; simp
  rw [e] at h
  exact h

set_option maxHeartbeats 2000000 in
set_option maxRecDepth 100000 in
theorem TornPart_any (D P : Nat) (K : Int) (d : Ded) (hd : d.kind = K) (s : ByteArray) (i : Nat) (w : World) (h0 : w.cell? ⟨D, 0, none⟩ = some (.int .i64 K)) (h1 : w.cell? ⟨P, 0, none⟩ = some (.string s)) (hs : s.size ≤ big) :
    Calls Try.prog 35 #[.int .i64 (i : Int), .pointer (some ⟨D, 0, none⟩), .pointer (some ⟨P, 0, none⟩)] w fun e w' => e = .returned (.int .u8 (tornP d (bytesOf s) i : Nat)) ∧ w' = w := by
  obtain ⟨T, hT⟩ : ∃ T, T = tornP d (bytesOf s) i := ⟨_, rfl⟩
  rw [← hT]
  unfold tornP at hT
  rw [hd, bytes_length] at hT
  have hne : bytesOf s = [] ↔ s.size = 0 := by rw [← bytes_length]; exact List.length_eq_zero_iff.symm
  by_cases k2 : K = 2
  · by_cases hi : i < s.size
    · rw [if_pos ⟨k2, hi⟩] at hT
      have hx := run_index_byte s i hi
      have HT := Lib.hid hT
      clear hT hne
      subst k2
      go_enter Try.func35, Try.ntmps35
      go_wp2_with fail
      go_ret
      exact ⟨ret_int (by rw [HT.out, List.getD_eq_getElem?_getD]), rfl⟩
    · rw [if_neg (by omega), if_neg (by omega)] at hT
      have HT := Lib.hid hT
      clear hT hne
      subst k2
      go_enter Try.func35, Try.ntmps35
      go_wp2_with fail
      all_goals go_ret
      all_goals exact ⟨ret_int (by rw [HT.out]; rfl), rfl⟩
  · have k2' : (K == 2) = false := by simp [k2]
    rw [if_neg (by omega)] at hT
    by_cases k1 : K = 1
    · by_cases hz : s.size = 0
      · rw [if_neg (fun h => h.2 (hne.2 hz))] at hT
        have HT := Lib.hid hT
        obtain rfl : s = ⟨#[]⟩ := by
          obtain ⟨x⟩ := s
          rw [Array.eq_empty_of_size_eq_zero hz]
        clear hT hne
        subst k1
        go_enter Try.func35, Try.ntmps35
        go_wp2_with fail
        all_goals go_ret
        all_goals exact ⟨ret_int (by rw [HT.out]; rfl), rfl⟩
      · rw [if_pos ⟨k1, by rw [Ne, hne]; exact hz⟩] at hT
        have hx := run_index_byte s 0 (by omega)
        have HT := Lib.hid hT
        have hsn : (s.toList == (⟨#[]⟩ : ByteArray).toList) = false := str_ne (by rintro rfl; exact hz rfl)
        have hse : s.toList.isEmpty = false := by
          cases h : s.toList with
          | nil => rw [h, show (⟨#[]⟩ : ByteArray).toList = [] from by kernel_rfl] at hsn; exact absurd hsn (by decide)
          | cons a l => rfl
        have hsg : IntKind.u8.signed = false := rfl
        have hpos : 0 < s.size := by omega
        have HX := Lib.hid (byte_get s 0 hpos)
        clear hT hne hsn hz
        subst k1
        go_enter Try.func35, Try.ntmps35
        go_wp2_with fail
        go_ret
        exact ⟨ret_int (by rw [HT.out, HX.out]; exact xor_255 _), rfl⟩
    · rw [if_neg (by omega)] at hT
      have HT := Lib.hid hT
      have k1' : (K == 1) = false := by simp [k1]
      clear hT hne k1 k2
      go_enter Try.func35, Try.ntmps35
      go_wp2_with fail
      all_goals go_ret
      all_goals exact ⟨ret_int (by rw [HT.out]; rfl), rfl⟩

end Go.Proofs.Ytpmjgkngkaleeaa
