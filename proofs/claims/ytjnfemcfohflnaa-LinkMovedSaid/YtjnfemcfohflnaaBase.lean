import Derived.Test.YtjnfemcfohflnaaRows
import Derived.Test.YtjnfemcfohflnaaPure
import Derived.WalkKit
import Derived.WalkSpells
import Derived.WalkLawsBesides
import Derived.Outline
import Derived.Handy
import Derived.Lib.Hide
import Derived.Deep.QuietTactic
import Derived.BigQuiet
import Derived.Deep.Draws
import Derived.Deep.RegionHeld3
import Derived.Laws.BytesArg
import Derived.Lib.Strings
import Derived.Lib.IndexBytes
/- What the walks lean on: small laws on results, memory. -/
namespace Go.Proofs.Ytjnfemcfohflnaa
open Go.RowKit

theorem ret_int {k : IntKind} {a b : Int} (h : a = b) : Ending.returned (.int k a) = .returned (.int k b) := by rw [h]
theorem ret_bool {a b : Bool} (h : a = b) : Ending.returned (.bool a) = .returned (.bool b) := by rw [h]
theorem ret_ints {k : IntKind} {a b c d : Int} (h : a = b) (h' : c = d) : Ending.returned (.tuple #[.int k a, .int k c]) = .returned (.tuple #[.int k b, .int k d]) := by rw [h, h']
theorem ret_sint {k : IntKind} {s t : ByteArray} {c d : Int} (h : s = t) (h' : c = d) : Ending.returned (.tuple #[.string s, .int k c]) = .returned (.tuple #[.string t, .int k d]) := by rw [h, h']

theorem bcell {W w1 : World} (hb : Below W.heap.size W w1) : (∀ b o, b < W.heap.size → w1.cell? ⟨b, o, none⟩ = W.cell? ⟨b, o, none⟩) ∧ (∀ b o, b < W.heap.size → w1.frozen? ⟨b, o, none⟩ = W.frozen? ⟨b, o, none⟩) :=
  ⟨fun b o h => hb.cell (p := ⟨b, o, none⟩) h, fun b o h => hb.frozen (p := ⟨b, o, none⟩) h⟩

theorem quiet_left {P : Program} {f : FuncId} {args : Array Value} {w : World} {n : Nat} {v : Value}
    (h : Calls P f args (w.drewN n) fun e w' => e = .returned v ∧ w.drewN n = w') : Calls P f args (w.drewN n) fun e w'' => e = .returned v ∧ ∃ m, w'' = w.drewN m :=
  h.mono fun _ _ ⟨he, hm⟩ => ⟨he, n, hm.symm⟩
theorem below_drewN {B : Nat} {a w : World} (h : Below B a w) (n : Nat) : Below B a (w.drewN n) := ⟨h.os, h.tape, h.output, h.size, h.block⟩

theorem below_step {W A B : World} (h : Below W.heap.size W A) (k : Below A.heap.size A B) : Below W.heap.size W B := h.trans (k.mono h.size)

theorem held_cell {w2 W w3 : World} {p : Addr} {v : Value} (hp : p.block < w2.heap.size) (h : Below w2.heap.size w2 W ∧ W.cell? p = some v) (k : Below W.heap.size W w3) : Below w2.heap.size w2 w3 ∧ w3.cell? p = some v :=
  ⟨below_step h.1 k, (k.cell (p := p) (Nat.lt_of_lt_of_le hp h.1.size)).trans h.2⟩
theorem held_drew {w2 W : World} {p : Addr} {v : Value} (h : Below w2.heap.size w2 W ∧ W.cell? p = some v) : Below w2.heap.size w2 W.drew ∧ W.drew.cell? p = some v :=
  ⟨h.1.drew, h.2⟩

/-! ### bits of numbers that are not below 0 -/
theorem ofInt_i64 (a : Nat) (ha : a < 9223372036854775808) : (BitVec.ofInt 64 (a : Int)).toNat = a := by
  rw [BitVec.ofInt_natCast, BitVec.toNat_ofNat]; exact Nat.mod_eq_of_lt (by omega)
theorem i64_or_nat (a b : Nat) (ha : a < 9223372036854775808) (hb : b < 9223372036854775808) : bits .or .i64 (a : Int) (b : Int) = ((a ||| b : Nat) : Int) := by
  have hx : a ||| b < 2 ^ 63 := Nat.or_lt_two_pow (by omega) (by omega)
  show IntKind.i64.wrap ((BitVec.ofInt 64 (a : Int) ||| BitVec.ofInt 64 (b : Int)).toNat : Int) = _
  rw [BitVec.toNat_or, ofInt_i64 a ha, ofInt_i64 b hb, IntKind.wrap_i64]
  omega
theorem i64_and_nat (a b : Nat) (ha : a < 9223372036854775808) (hb : b < 9223372036854775808) : bits .and .i64 (a : Int) (b : Int) = ((a &&& b : Nat) : Int) := by
  have hx : a &&& b < 2 ^ 63 := Nat.and_lt_two_pow _ (by omega)
  show IntKind.i64.wrap ((BitVec.ofInt 64 (a : Int) &&& BitVec.ofInt 64 (b : Int)).toNat : Int) = _
  rw [BitVec.toNat_and, ofInt_i64 a ha, ofInt_i64 b hb, IntKind.wrap_i64]
  omega
theorem and_mask (n : Int) (k : Nat) (hk : k ≤ 32) : bits .and .i64 n (2 ^ k - 1) = n % 2 ^ k := by
  have hp : (0 : Int) < 2 ^ k := Int.pow_pos (by decide)
  have hm : ((2 : Int) ^ k - 1) = ((2 ^ k - 1 : Nat) : Int) := by
    have : 1 ≤ 2 ^ k := Nat.one_le_two_pow
    rw [Int.natCast_sub this]; simp
  have hlt : 2 ^ k ≤ 2 ^ 32 := Nat.pow_le_pow_right (by decide) hk
  show IntKind.i64.wrap ((BitVec.ofInt 64 n &&& BitVec.ofInt 64 (2 ^ k - 1)).toNat : Int) = _
  rw [hm, BitVec.toNat_and, ofInt_i64 _ (by omega), Nat.and_two_pow_sub_one_eq_mod, BitVec.toNat_ofInt]
  have e1 : (((n % ((2 ^ 64 : Nat) : Int)).toNat % 2 ^ k : Nat) : Int) = n % 2 ^ k := by
    rw [Int.natCast_emod, Int.toNat_of_nonneg (Int.emod_nonneg _ (by decide))]
    have hd : ((2 : Int) ^ k) ∣ ((2 ^ 64 : Nat) : Int) := by
      refine ⟨2 ^ (64 - k), ?_⟩
      rw [← Int.pow_add, show k + (64 - k) = 64 from by omega]; rfl
    rw [Int.natCast_pow]
    exact Int.emod_emod_of_dvd n hd
  rw [e1, IntKind.wrap_i64]
  have h0 := Int.emod_nonneg n (show (2 : Int) ^ k ≠ 0 by omega)
  have h1 := Int.emod_lt_of_pos n hp
  have h2 : (2 : Int) ^ k ≤ 4294967296 := by
    have : ((2 ^ k : Nat) : Int) ≤ ((2 ^ 32 : Nat) : Int) := by exact_mod_cast hlt
    simpa using this
  omega
theorem or_byte (n : Int) (c : Nat) (h0 : 0 ≤ n) (h : n < 16777216) (hc : c < 256) : bits .or .i64 (wrap64 (n * 256)) (wrap64 (c : Int)) = 256 * n + c := by
  obtain ⟨m, rfl⟩ := Int.eq_ofNat_of_zero_le h0
  rw [IntWalk.wrap64_in _ (by omega), IntWalk.wrap64_in _ (by omega)]
  have e : (m : Int) * 256 = ((m * 256 : Nat) : Int) := by omega
  rw [e, i64_or_nat _ _ (by omega) (by omega)]
  have : m * 256 ||| c = m * 256 + c := by
    have := Nat.shiftLeft_add_eq_or_of_lt (b := c) (i := 8) (by omega) m
    simp only [Nat.shiftLeft_eq, Nat.reducePow] at this
    omega
  omega

/-! ### a slice of bytes as a string -/
abbrev byteV (c : UInt8) : Value := .int .u8 c.toNat
theorem conv_bytes_own {P : Program} {W : World} {base n : Nat} {e src dst : TypeId} {v : Value} {l : List UInt8} (hs : P.underlying src = some (.slice e)) (he : P.underlying e = some (.int .u8)) (hd : P.underlying dst = some .string)
    (h : W.ownsRow base e 1 v n (l.map byteV)) : (convert src dst v).run P W = .ok (.string ⟨l.toArray⟩) W := by
  have hlen := h.1
  simp only [List.length_map, Nat.mul_one] at hlen
  rcases h.2 with ⟨rfl, h0⟩ | ⟨g, cap, cur, rfl, _, hg, _⟩
  · subst h0
    obtain rfl : l = [] := List.eq_nil_of_length_eq_zero hlen
    exact run_convert_bytes_nil W src e hs he 0 0 dst hd
  · have hc := h.cells (g := g) rfl
    have := run_convert_bytes_arg (P := P) W src e hs he g 0 n cap (l.map fun c => (c.toNat : Int)) (by simp [hlen]) (fun i hi => by
      have h1 := hc i (byteV (l[i]'(by omega))) (by simp [List.getElem?_map, List.getElem?_eq_getElem (show i < l.length by omega)])
      have hadd : (⟨g, 0, none⟩ : Addr).add i = ⟨g, 0 + i, none⟩ := by unfold Addr.add; split <;> simp_all
      rw [hadd] at h1
      rw [h1]
      simp [List.getElem?_eq_getElem (show i < l.length by omega)]) dst hd
    rw [this]
    congr 2
    unfold strOfNums
    congr 2
    rw [List.map_map]
    conv => rhs; rw [← List.map_id l]
    refine List.map_congr_left fun c _ => ?_
    simp

theorem conv_one {P : Program} {e src dst : TypeId} (hs : P.underlying src = some (.slice e)) (he : P.underlying e = some (.int .u8)) (hd : P.underlying dst = some .string) (W : World) (x : Int) :
    (convert src dst (.slice (some ⟨W.heap.size, 0, none⟩) 1 1)).run P (W.alloc (.cells #[.int .u8 x] e)) = .ok (.string ⟨#[UInt8.ofNat x.toNat]⟩) (W.alloc (.cells #[.int .u8 x] e)) :=
  run_convert_bytes_arg (P := P) (W.alloc (.cells #[.int .u8 x] e)) src e hs he W.heap.size 0 1 1 [x] rfl (fun i hi => by
    obtain rfl : i = 0 := by omega
    show (match (W.alloc (.cells #[.int .u8 x] e)).heap[W.heap.size]? with | some (.cells c _ _) => if (none : Option Nat).isSome then none else c[0 + 0]? | _ => none) = _
    rw [heap_alloc_new]; rfl) dst hd

/-! ### strings -/
theorem ba_eq {a b : ByteArray} (h : a.data.toList = b.data.toList) : a = b := by
  cases a; cases b; congr 1; exact Array.toList_inj.1 h
theorem ba_append (a b : ByteArray) : (a ++ b).data.toList = a.data.toList ++ b.data.toList := by simp [ByteArray.data_append]

/-- what a walk wants to know of 's[:a] + t + s[a+k:]' -/
theorem splice_facts {P : Program} (s t : ByteArray) (a k : Nat) (hs : s.size ≤ 140737488351232) (ht : t.size ≤ 140737488351232) (h4 : a + k ≤ s.size) :
    IntKind.i64.wrap ((a : Int) + k) = (a : Int) + k ∧ (0 : Int) ≤ (a : Int) + k ∧ ((a : Int) + k).toNat = a + k ∧ (a : Int) + k ≤ s.size ∧
      (∀ W, (Op.stringOp .add (s.extract 0 a) t).run P W = .ok (.string (s.extract 0 a ++ t)) W) ∧
      (∀ W, (Op.stringOp .add (s.extract 0 a ++ t) (s.extract (a + k) s.size)).run P W = .ok (.string (s.extract 0 a ++ t ++ s.extract (a + k) s.size)) W) := by
  have hz1 : (s.extract 0 a).size ≤ s.size := by rw [ByteArray.size_extract]; omega
  have hz2 : (s.extract (a + k) s.size).size ≤ s.size := by rw [ByteArray.size_extract]; omega
  exact ⟨IntWalk.i64_in _ (by omega), by omega, by omega, by omega, fun W => run_string_add_sum _ _ _ (by omega), fun W => run_string_add_sum _ _ _ (by rw [ByteArray.size_append]; omega)⟩
theorem splice_eq (s : ByteArray) (a k : Nat) (l : List UInt8) : s.extract 0 a ++ ⟨l.toArray⟩ ++ s.extract (a + k) s.size = ⟨(s.data.toList.take a ++ l ++ s.data.toList.drop (a + k)).toArray⟩ := by
  refine ba_eq ?_
  rw [ba_append, ba_append, Lib.extract_to_end, Lib.extract_data]
  simp

/-! ### lists -/
theorem drop_take_succ {α : Type} (l : List α) (i k : Nat) (hi : i < l.length) : (l.drop i).take (k + 1) = l[i] :: (l.drop (i + 1)).take k := by
  rw [List.drop_eq_getElem_cons hi]; rfl

end Go.Proofs.Ytjnfemcfohflnaa
