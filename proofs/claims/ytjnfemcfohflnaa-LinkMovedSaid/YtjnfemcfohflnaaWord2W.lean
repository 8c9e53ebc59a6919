import Derived.Test.YtjnfemcfohflnaaBytesW
import Derived.Lib.Strings
/- word.Put, and the document's answer to it. -/
namespace Go.Proofs.Ytjnfemcfohflnaa
open Go.RowKit

/-- a text with a number at a place -/
def putStr (s : ByteArray) (a k : Nat) (n : Int) : ByteArray := ⟨(s.data.toList.take a ++ digits n k ++ s.data.toList.drop (a + k)).toArray⟩

set_option maxHeartbeats 400000 in
theorem Put_ok (s : ByteArray) (a k : Nat) (n : Int) (w : World) (hs : s.size ≤ 140737488351232) (hok : checkWord s.size a k = 0) :
    Calls Try.prog 50 #[.string s, .int .i64 a, .int .i64 k, .int .i64 n] w fun e w' => e = .returned (.tuple #[.string (putStr s a k n), .int .i64 0]) ∧ Below w.heap.size w w' := by
  obtain ⟨h1, h2, h3, h4, h5⟩ := checkWord_ok hok
  go_enter Try.func50, Try.ntmps50
  go_wp2_with (first | (go_at_call 67; refine (width_any _ _ _ _ hs).mono ?_; rintro e w' ⟨rfl, rfl⟩))
  have q1 : IntKind.i64.wrap ((a : Int) + k) = (a : Int) + k := IntWalk.i64_in _ (by omega)
  have q2 : (0 : Int) ≤ (a : Int) + k := by omega
  have q3 : ((a : Int) + k).toNat = a + k := by omega
  have q4 : (a : Int) + k ≤ s.size := by omega
  have hz1 : (s.extract 0 a).size ≤ s.size := by rw [ByteArray.size_extract]; omega
  have hz2 : (s.extract (a + k) s.size).size ≤ s.size := by rw [ByteArray.size_extract]; omega
  have hz3 : (ByteArray.mk (digits n k).toArray).size = k := by simp [ByteArray.size, digits_length]
  have a1 : ∀ W, (Op.stringOp .add (s.extract 0 a) ⟨(digits n k).toArray⟩).run Try.prog W = .ok (.string (s.extract 0 a ++ ⟨(digits n k).toArray⟩)) W := fun W => run_string_add_sum _ _ _ (by omega)
  have a2 : ∀ W, (Op.stringOp .add (s.extract 0 a ++ ⟨(digits n k).toArray⟩) (s.extract (a + k) s.size)).run Try.prog W = .ok (.string (s.extract 0 a ++ ⟨(digits n k).toArray⟩ ++ s.extract (a + k) s.size)) W := fun W => run_string_add_sum _ _ _ (by rw [ByteArray.size_append]; omega)
  clear hz1 hz2 hz3
  go_region_held3 (fun w' => Below w.heap.size w w') (first | exact Below.refl _ _ | exact Below.drew (Below.refl _ _) | exact below_step (by assumption) (by assumption) | exact Below.drew (by assumption) | assumption)
    (first | (go_at_call 68; refine (Bytes_any _ _ _ (by omega)).mono ?_; rintro e w1 ⟨rfl, hb1⟩))
  clear a1 a2 q1 q2 q3
  go_wp2_with fail
  go_ret2
  refine ⟨ret_sint (ba_eq ?_) rfl, by assumption⟩
  rw [ba_append, ba_append, Lib.extract_to_end, Lib.extract_data]
  simp [putStr]

set_option maxHeartbeats 400000 in
theorem Put_no (s : ByteArray) (a k : Int) (n : Int) (w : World) (hs : s.size ≤ 140737488351232) (hno : checkWord s.size a k ≠ 0) :
    Calls Try.prog 50 #[.string s, .int .i64 a, .int .i64 k, .int .i64 n] w fun e w' => e = .returned (.tuple #[.string ⟨#[]⟩, .int .i64 (checkWord s.size a k)]) ∧ w = w' := by
  go_enter Try.func50, Try.ntmps50
  go_wp2_with (first | (go_at_call 67; refine (width_any _ _ _ _ hs).mono ?_; rintro e w' ⟨rfl, rfl⟩))
  all_goals (go_ret2; exact ⟨rfl, rfl⟩)



theorem putStr_size (s : ByteArray) (a k : Nat) (n : Int) (h : a + k ≤ s.size) : (putStr s a k n).size = s.size := by
  have e : (putStr s a k n).size = (s.data.toList.take a ++ digits n k ++ s.data.toList.drop (a + k)).length := by unfold putStr; rfl
  have hl : s.data.toList.length = s.size := rfl
  rw [e, List.length_append, List.length_append, digits_length, List.length_take, List.length_drop]; omega

theorem get_put (s : ByteArray) (a k : Nat) (n : Int) (h : a + k ≤ s.size) : ((putStr s a k n).data.toList.drop a).take k = digits n k := by
  have hl : s.data.toList.length = s.size := rfl
  simp only [putStr, List.append_assoc]
  rw [List.drop_append, List.drop_of_length_le (by simp; omega), List.length_take, Nat.min_eq_left (by omega), Nat.sub_self, List.drop_zero, List.nil_append, List.take_append, digits_length, Nat.sub_self, List.take_zero, List.append_nil, List.take_of_length_le (by rw [digits_length]; omega)]

theorem put_put (s : ByteArray) (a k : Nat) (n m : Int) (h : a + k ≤ s.size) : putStr (putStr s a k n) a k m = putStr s a k m := by
  have hl : s.data.toList.length = s.size := rfl
  refine ba_eq ?_
  simp only [putStr, List.append_assoc]
  congr 1
  · rw [List.take_append, List.length_take, Nat.min_eq_left (by omega), Nat.sub_self, List.take_zero, List.append_nil, List.take_of_length_le (by simp; omega)]
  · congr 1
    rw [List.drop_append, List.drop_of_length_le (by simp; omega), List.length_take, Nat.min_eq_left (by omega), List.nil_append, List.drop_append, List.drop_of_length_le (by rw [digits_length]; omega), digits_length, List.nil_append, List.drop_drop]
    congr 1; omega

theorem put_get (s : ByteArray) (a k : Nat) (h : a + k ≤ s.size) : putStr s a k (num ((s.data.toList.drop a).take k)) = s := by
  have hl : s.data.toList.length = s.size := rfl
  have hk : ((s.data.toList.drop a).take k).length = k := by simp; omega
  refine ba_eq ?_
  have e := digits_num ((s.data.toList.drop a).take k)
  rw [hk] at e
  simp only [putStr, e, List.append_assoc]
  rw [show s.data.toList.drop (a + k) = (s.data.toList.drop a).drop k from by rw [List.drop_drop], List.take_append_drop, List.take_append_drop]

theorem put_mod (s : ByteArray) (a k : Nat) (n m : Int) (h : digits n k = digits m k) : putStr s a k n = putStr s a k m := by simp [putStr, h]

/-- a signed number of 8*k bits has the number's digits -/
theorem signed_digits (x : Int) (k : Nat) (h1 : 1 ≤ k) (h : k ≤ 4) (h0 : 0 ≤ x) (hx : x < p256 k) : digits (signedNum x (8 * k)) k = digits x k ∧ signedErr x (8 * k) = 0 := by
  have e : (2 : Int) ^ (8 * (k : Int)).toNat = p256 k := by rw [p256_pow, show (8 * (k : Int)).toNat = 8 * k from by omega]
  have hn : signedNum x (8 * k) = if p256 k ≤ 2 * x then x - p256 k else x := by
    unfold signedNum; rw [e, if_neg (by omega), if_neg (by omega)]
  refine ⟨?_, by unfold signedErr; rw [e, if_neg (by omega), if_neg (by omega)]⟩
  rw [hn]
  split
  · rw [← digits_mod (x - p256 k) k, ← digits_mod x k]
    congr 1
    have := Int.sub_emod_right x (p256 k)
    exact this
  · rfl

theorem put_elsewhere (s : ByteArray) (a k : Nat) (n : Int) (h : a + k ≤ s.size) (i : Nat) (hi : i < s.size) (hi' : i < (putStr s a k n).size) (ho : i < a ∨ a + k ≤ i) : s[i] = (putStr s a k n)[i] := by
  have hl : s.data.toList.length = s.size := rfl
  have e1 : s[i] = s.data.toList[i]'(by omega) := rfl
  have e2 : (putStr s a k n)[i] = (putStr s a k n).data.toList[i]'(by have : (putStr s a k n).data.toList.length = (putStr s a k n).size := rfl; omega) := rfl
  rw [e1, e2]
  simp only [putStr, List.append_assoc]
  rcases ho with ho | ho
  · rw [List.getElem_append_left (by simp; omega), List.getElem_take]
  · rw [List.getElem_append_right (by simp; omega), List.getElem_append_right (by simp [digits_length]; omega)]
    simp only [List.getElem_drop, digits_length, List.length_take]
    congr 1; omega


end Go.Proofs.Ytjnfemcfohflnaa
