import Derived.Test.YtjiedaialianmaaGreatRows
import Derived.Test.YtjiedaialianmaaGreatG01
import Derived.WalkKit
import Derived.WalkSpells
import Derived.WalkLawsBesides
import Derived.Outline
import Derived.Handy
import Derived.Lib.Hide
import Derived.Deep.QuietTactic
import Derived.BigQuiet
import Derived.Deep.Draws
import Derived.Deep.RegionHeld3
import Derived.Laws.BytesArg
import Derived.Lib.Strings
import Derived.Lib.IndexBytes
import Derived.RangeFuncBox
import Derived.RangeFuncLeaves
import Derived.Shelf.Abstract
import Derived.OwnWalkIn
import Derived.TacticsInMore
import Derived.LoopNIn
import Derived.LoopIn
import Derived.Maps.AppendAt
section

namespace Go.Proofs.YtjiedaialianmaaGreat
open Go.RowKit

theorem ret_int {k : IntKind} {a b : Int} (h : a = b) : Ending.returned (.int k a) = .returned (.int k b) := by rw [h]
theorem ret_bool {a b : Bool} (h : a = b) : Ending.returned (.bool a) = .returned (.bool b) := by rw [h]
theorem ret_ints {k : IntKind} {a b c d : Int} (h : a = b) (h' : c = d) : Ending.returned (.tuple #[.int k a, .int k c]) = .returned (.tuple #[.int k b, .int k d]) := by rw [h, h']
theorem ret_sint {k : IntKind} {s t : ByteArray} {c d : Int} (h : s = t) (h' : c = d) : Ending.returned (.tuple #[.string s, .int k c]) = .returned (.tuple #[.string t, .int k d]) := by rw [h, h']

theorem bcell {W w1 : World} (hb : Below W.heap.size W w1) : (∀ b o, b < W.heap.size → w1.cell? ⟨b, o, none⟩ = W.cell? ⟨b, o, none⟩) ∧ (∀ b o, b < W.heap.size → w1.frozen? ⟨b, o, none⟩ = W.frozen? ⟨b, o, none⟩) :=
  ⟨fun b o h => hb.cell (p := ⟨b, o, none⟩) h, fun b o h => hb.frozen (p := ⟨b, o, none⟩) h⟩

theorem below_drewN {B : Nat} {a w : World} (h : Below B a w) (n : Nat) : Below B a (w.drewN n) := ⟨h.os, h.tape, h.output, h.size, h.block⟩

theorem below_step {W A B : World} (h : Below W.heap.size W A) (k : Below A.heap.size A B) : Below W.heap.size W B := h.trans (k.mono h.size)

theorem held_cell {w2 W w3 : World} {p : Addr} {v : Value} (hp : p.block < w2.heap.size) (h : Below w2.heap.size w2 W ∧ W.cell? p = some v) (k : Below W.heap.size W w3) : Below w2.heap.size w2 w3 ∧ w3.cell? p = some v :=
  ⟨below_step h.1 k, (k.cell (p := p) (Nat.lt_of_lt_of_le hp h.1.size)).trans h.2⟩
theorem held_drew {w2 W : World} {p : Addr} {v : Value} (h : Below w2.heap.size w2 W ∧ W.cell? p = some v) : Below w2.heap.size w2 W.drew ∧ W.drew.cell? p = some v :=
  ⟨h.1.drew, h.2⟩


theorem ofInt_i64 (a : Nat) (ha : a < 9223372036854775808) : (BitVec.ofInt 64 (a : Int)).toNat = a := by
  rw [BitVec.ofInt_natCast, BitVec.toNat_ofNat]; exact Nat.mod_eq_of_lt (by omega)
theorem and_mask (n : Int) (k : Nat) (hk : k ≤ 32) : bits .and .i64 n (2 ^ k - 1) = n % 2 ^ k := by
  have hp : (0 : Int) < 2 ^ k := Int.pow_pos (by decide)
  have hm : ((2 : Int) ^ k - 1) = ((2 ^ k - 1 : Nat) : Int) := by
    have : 1 ≤ 2 ^ k := Nat.one_le_two_pow
    rw [Int.natCast_sub this]; simp
  have hlt : 2 ^ k ≤ 2 ^ 32 := Nat.pow_le_pow_right (by decide) hk
  show IntKind.i64.wrap ((BitVec.ofInt 64 n &&& BitVec.ofInt 64 (2 ^ k - 1)).toNat : Int) = _
  rw [hm, BitVec.toNat_and, ofInt_i64 _ (by omega), Nat.and_two_pow_sub_one_eq_mod, BitVec.toNat_ofInt]
  have e1 : (((n % ((2 ^ 64 : Nat) : Int)).toNat % 2 ^ k : Nat) : Int) = n % 2 ^ k := by
    rw [Int.natCast_emod, Int.toNat_of_nonneg (Int.emod_nonneg _ (by decide))]
    have hd : ((2 : Int) ^ k) ∣ ((2 ^ 64 : Nat) : Int) := by
      refine ⟨2 ^ (64 - k), ?_⟩
      rw [← Int.pow_add, show k + (64 - k) = 64 from by omega]; rfl
    rw [Int.natCast_pow]
    exact Int.emod_emod_of_dvd n hd
  rw [e1, IntKind.wrap_i64]
  have h0 := Int.emod_nonneg n (show (2 : Int) ^ k ≠ 0 by omega)
  have h1 := Int.emod_lt_of_pos n hp
  have h2 : (2 : Int) ^ k ≤ 4294967296 := by
    have : ((2 ^ k : Nat) : Int) ≤ ((2 ^ 32 : Nat) : Int) := by exact_mod_cast hlt
    simpa using this
  omega

abbrev byteV (c : UInt8) : Value := .int .u8 c.toNat
theorem conv_bytes_own {P : Program} {W : World} {base n : Nat} {e src dst : TypeId} {v : Value} {l : List UInt8} (hs : P.underlying src = some (.slice e)) (he : P.underlying e = some (.int .u8)) (hd : P.underlying dst = some .string)
    (h : W.ownsRow base e 1 v n (l.map byteV)) : (convert src dst v).run P W = .ok (.string ⟨l.toArray⟩) W := by
  have hlen := h.1
  simp only [List.length_map, Nat.mul_one] at hlen
  rcases h.2 with ⟨rfl, h0⟩ | ⟨g, cap, cur, rfl, _, hg, _⟩
  · subst h0
    obtain rfl : l = [] := List.eq_nil_of_length_eq_zero hlen
    exact run_convert_bytes_nil W src e hs he 0 0 dst hd
  · have hc := h.cells (g := g) rfl
    have := run_convert_bytes_arg (P := P) W src e hs he g 0 n cap (l.map fun c => (c.toNat : Int)) (by simp [hlen]) (fun i hi => by
      have h1 := hc i (byteV (l[i]'(by omega))) (by simp [List.getElem?_map, List.getElem?_eq_getElem (show i < l.length by omega)])
      have hadd : (⟨g, 0, none⟩ : Addr).add i = ⟨g, 0 + i, none⟩ := by unfold Addr.add; split <;> simp_all
      rw [hadd] at h1
      rw [h1]
      simp [List.getElem?_eq_getElem (show i < l.length by omega)]) dst hd
    rw [this]
    congr 2
    unfold strOfNums
    congr 2
    rw [List.map_map]
    conv => rhs; rw [← List.map_id l]
    refine List.map_congr_left fun c _ => ?_
    simp

theorem conv_one {P : Program} {e src dst : TypeId} (hs : P.underlying src = some (.slice e)) (he : P.underlying e = some (.int .u8)) (hd : P.underlying dst = some .string) (W : World) (x : Int) :
    (convert src dst (.slice (some ⟨W.heap.size, 0, none⟩) 1 1)).run P (W.alloc (.cells #[.int .u8 x] e)) = .ok (.string ⟨#[UInt8.ofNat x.toNat]⟩) (W.alloc (.cells #[.int .u8 x] e)) :=
  run_convert_bytes_arg (P := P) (W.alloc (.cells #[.int .u8 x] e)) src e hs he W.heap.size 0 1 1 [x] rfl (fun i hi => by
    obtain rfl : i = 0 := by omega
    show (match (W.alloc (.cells #[.int .u8 x] e)).heap[W.heap.size]? with | some (.cells c _ _) => if (none : Option Nat).isSome then none else c[0 + 0]? | _ => none) = _
    rw [heap_alloc_new]; rfl) dst hd


theorem ba_eq {a b : ByteArray} (h : a.data.toList = b.data.toList) : a = b := by
  cases a; cases b; congr 1; exact Array.toList_inj.1 h
theorem ba_append (a b : ByteArray) : (a ++ b).data.toList = a.data.toList ++ b.data.toList := by simp [ByteArray.data_append]

/-- what a walk wants to know of 's[:a] + t + s[a+k:]' -/
theorem splice_facts {P : Program} (s t : ByteArray) (a k : Nat) (hs : s.size ≤ 140737488351232) (ht : t.size ≤ 140737488351232) (h4 : a + k ≤ s.size) :
    IntKind.i64.wrap ((a : Int) + k) = (a : Int) + k ∧ (0 : Int) ≤ (a : Int) + k ∧ ((a : Int) + k).toNat = a + k ∧ (a : Int) + k ≤ s.size ∧
      (∀ W, (Op.stringOp .add (s.extract 0 a) t).run P W = .ok (.string (s.extract 0 a ++ t)) W) ∧
      (∀ W, (Op.stringOp .add (s.extract 0 a ++ t) (s.extract (a + k) s.size)).run P W = .ok (.string (s.extract 0 a ++ t ++ s.extract (a + k) s.size)) W) := by
  have hz1 : (s.extract 0 a).size ≤ s.size := by rw [ByteArray.size_extract]; omega
  have hz2 : (s.extract (a + k) s.size).size ≤ s.size := by rw [ByteArray.size_extract]; omega
  exact ⟨IntWalk.i64_in _ (by omega), by omega, by omega, by omega, fun W => run_string_add_sum _ _ _ (by omega), fun W => run_string_add_sum _ _ _ (by rw [ByteArray.size_append]; omega)⟩
theorem splice_eq (s : ByteArray) (a k : Nat) (l : List UInt8) : s.extract 0 a ++ ⟨l.toArray⟩ ++ s.extract (a + k) s.size = ⟨(s.data.toList.take a ++ l ++ s.data.toList.drop (a + k)).toArray⟩ := by
  refine ba_eq ?_
  rw [ba_append, ba_append, Lib.extract_to_end, Lib.extract_data]
  simp


end Go.Proofs.YtjiedaialianmaaGreat
end

section

namespace Go.Proofs.YtjiedaialianmaaGreat
open Go.RowKit

set_option maxHeartbeats 400000 in
theorem between_any (n a b : Int) (w : World) :
    Calls Tryz.prog 75 #[.int .i64 n, .int .i64 a, .int .i64 b] w fun e w' => e = .returned (.bool (decide (a ≤ n) && decide (n ≤ b))) ∧ w = w' := by
  go_enter Tryz.func75, Tryz.ntmps75
  go_wp2_with fail
  all_goals (go_ret; exact ⟨ret_bool (by rw [Bool.eq_iff_iff]; simp; omega), rfl⟩)
theorem between_t (n a b : Int) (w : World) (h1 : a ≤ n) (h2 : n ≤ b) :
    Calls Tryz.prog 75 #[.int .i64 n, .int .i64 a, .int .i64 b] w fun e w' => e = .returned (.bool true) ∧ w = w' :=
  (between_any n a b w).mono fun _ _ h => ⟨h.1.trans (ret_bool (by simp; omega)), h.2⟩
theorem between_f (n a b : Int) (w : World) (h : n < a ∨ b < n) :
    Calls Tryz.prog 75 #[.int .i64 n, .int .i64 a, .int .i64 b] w fun e w' => e = .returned (.bool false) ∧ w = w' :=
  (between_any n a b w).mono fun _ _ h' => ⟨h'.1.trans (ret_bool (by simp; omega)), h'.2⟩

set_option maxHeartbeats 400000 in
theorem width_any (s : ByteArray) (at_ b : Int) (w : World) (hs : s.size ≤ 140737488351232) :
    Calls Tryz.prog 241 #[.string s, .int .i64 at_, .int .i64 b] w fun e w' => e = .returned (.int .i64 (checkWord s.size at_ b)) ∧ w = w' := by
  go_enter Tryz.func241, Tryz.ntmps241
  go_wp2_with fail
  all_goals (go_ret; exact ⟨ret_int (by unfold checkWord; (repeat' split) <;> first | rfl | omega), rfl⟩)



set_option maxHeartbeats 400000 in
theorem power_any (n : Int) (w : World) (h0 : 0 ≤ n) (h : n ≤ 32) :
    Calls Tryz.prog 205 #[.int .i64 n] w fun e w' => e = .returned (.int .i64 (2 ^ n.toNat)) ∧ w = w' := by
  go_enter Tryz.func205, Tryz.ntmps205
  go_wp2_with fail
  go_loop [3, 4] (fun x i => ∃ k : Nat, (k : Int) ≤ n ∧ i = .int .i64 k ∧ x = .int .i64 (2 ^ k)) (fun _ i => (n - intOf i).toNat)
  case atStart => exact ⟨0, by omega, rfl, rfl⟩
  case round =>
    obtain ⟨k, hk, rfl, rfl⟩ := hrel
    by_cases hlt : (k : Int) < n
    · have hp : (2 : Int) ^ k * 2 = 2 ^ (k + 1) := (Int.pow_succ 2 k).symm
      have hb : (2 : Int) ^ (k + 1) ≤ 4294967296 := (pow2_facts (k + 1) (by omega) (by omega)).2.1
      have hb0 : (2 : Int) ≤ 2 ^ (k + 1) := (pow2_facts (k + 1) (by omega) (by omega)).1
      have HP := Lib.hid hp
      have hq0 : (1 : Int) ≤ 2 ^ k := by omega
      have hq1 : (2 : Int) ^ k ≤ 4294967296 := by omega
      clear hp hb hb0
      go_wp2_with fail
      go_round
      case rel => exact ⟨k + 1, by omega, by go_num, by have := HP.out; rw [← this]; go_num⟩
      case measure => simp [intOf] <;> omega
    · obtain rfl : n = k := by omega
      go_wp2_with fail
      go_ret
      exact ⟨ret_int (by simp), rfl⟩

set_option maxHeartbeats 400000 in
theorem modulo_any (n m : Int) (w : World) (h0 : 1 ≤ m) (h : m ≤ 4294967296) :
    Calls Tryz.prog 204 #[.int .i64 n, .int .i64 m] w fun e w' => e = .returned (.int .i64 (n % m)) ∧ w = w' := by
  have e1 : n.tmod m = if 0 ≤ n ∨ n % m = 0 then n % m else n % m - m := by
    rw [Int.tmod_eq_emod]
    have : m.natAbs = m := by omega
    by_cases h1 : 0 ≤ n <;> by_cases h2 : n % m = 0 <;> simp [h1, h2, Int.dvd_iff_emod_eq_zero] <;> omega
  have b1 := Int.emod_nonneg n (show m ≠ 0 by omega)
  have b2 := Int.emod_lt_of_pos n (show 0 < m by omega)
  have H1 := Lib.hid e1
  clear e1
  go_enter Tryz.func204, Tryz.ntmps204
  go_wp2_with fail
  all_goals (go_ret; have e1 := H1.out; exact ⟨ret_int (by (try unfold wrap64); split at e1 <;> omega), rfl⟩)

theorem power8 (j : Nat) (w : World) (h : j ≤ 4) :
    Calls Tryz.prog 205 #[.int .i64 (8 * j)] w fun e w' => e = .returned (.int .i64 (p256 j)) ∧ w = w' :=
  (power_any _ w (by omega) (by omega)).mono fun _ _ ⟨he, hw⟩ => ⟨by rw [he, p256_pow, show (8 * (j : Int)).toNat = 8 * j from by omega], hw⟩

end Go.Proofs.YtjiedaialianmaaGreat
end

section

namespace Go.Proofs.YtjiedaialianmaaGreat
open Go.RowKit Go.Shelf

attribute [local go_sem] Oper.semAt_some

set_option maxHeartbeats 400000 in
theorem each_any (n k : Int) (w : World) :
    Calls Tryz.prog 264 #[.int .i64 k, .int .i64 n] w fun e w' => e = .returned (.func (.func 287) #[] #[.pointer (some ⟨w.heap.size, 0, none⟩), .pointer (some ⟨w.heap.size + 1, 0, none⟩)]) ∧ (w.alloc (.cells #[.int .i64 k] 3)).alloc (.cells #[.int .i64 n] 3) = w' := by
  go_enter Tryz.func264, Tryz.ntmps264
  go_wp2_with fail
  go_ret
  exact ⟨rfl, rfl⟩

set_option maxRecDepth 100000 in
set_option maxHeartbeats 1000000 in
/-- the iterator: for every loop body that keeps the two captured variables -/
theorem each1_in (m l Bb Bn : Nat) (n : Int) (k : Nat) (hk : k ≤ 4) (J : List UInt8 → World → Prop)
    (hset : ∀ pre W v, J pre W → J pre (W.setCell ⟨Bn, 0, none⟩ v)) (hne : Bb ≠ Bn)
    (hY : ∀ pre x W, J pre W → pre.length < k → YieldAt Fence.wide (m - 1) Tryz.prog l #[byteV x] W fun e W' =>
      e = .returned (.bool true) ∧ J (pre ++ [x]) W' ∧ W'.heap[Bb]? = W.heap[Bb]? ∧ W'.heap[Bn]? = W.heap[Bn]?)
    (W : World) (hb : Boxed W Bb 3 (.int .i64 k)) (hn : Boxed W Bn 3 (.int .i64 n)) (h0 : J [] W) :
    CallsIn Fence.wide m Tryz.prog 287 #[.func (.yield l) #[] #[], .pointer (some ⟨Bb, 0, none⟩), .pointer (some ⟨Bn, 0, none⟩)] W fun e W' => (∃ v, e = .returned v) ∧ J (digits n k) W' := by
  refine callsIn_of_wp Tryz.func287 rfl trivial ?_ rfl
  simp only [Tryz.ntmps287, List.size_toArray, List.length_cons, List.length_nil, Nat.reduceAdd, Nat.reduceSub, Array.replicate_succ, Array.replicate_zero, List.push_toArray, List.append_toArray, List.nil_append, List.cons_append]
  have hbc := hb.cell
  have hnc := hn.cell
  gi_wp2
  gi_loopw [5] (fun i wr => ∃ j : Nat, j ≤ k ∧ i = .int .i64 j ∧ Boxed wr Bb 3 (.int .i64 k) ∧ Boxed wr Bn 3 (.int .i64 (n / p256 j)) ∧ J (digits n j) wr) (fun i _ => k - (intOf i).toNat)
  case atStart => exact ⟨0, by omega, rfl, hb, by simpa [p256] using hn, h0⟩
  case round =>
    obtain ⟨j, hj, rfl, hbr, hnr, hJ⟩ := hrel
    clear hb hn h0 hbc hnc
    by_cases hlt : j < k
    · have hnc := hnr.cell
      have hnf := hnr.frozen
      obtain ⟨x, hx⟩ : ∃ x : UInt8, x = UInt8.ofNat (n / p256 j % 256).toNat := ⟨_, rfl⟩
      have hxv : byteV x = .int .u8 (n / p256 j % 256) := by
        rw [hx, byteV, ofNat_mod]
      have HS := Lib.hid (p256_step n j)
      have HD := Lib.hid (digits_snoc n j)
      rw [← hx] at HD
      have HX := Lib.hid hx
      obtain ⟨fn, tmps, assign, body, hy, hR⟩ := hY (digits n j) x wr hJ (by rw [digits_length]; exact hlt)
      rw [hxv] at hy
      clear hx hxv
      gi_wp2
      refine ⟨fun h => by simp [Fence.wide] at h, hR.mono ?_⟩
      rintro e W3 ⟨rfl, hJ3, hb3, hn3⟩
      have hbr3 : Boxed W3 Bb 3 (.int .i64 k) := hb3.trans hbr
      have hnr3 : Boxed W3 Bn 3 (.int .i64 (n / p256 j)) := hn3.trans hnr
      clear hnc hnf
      have hnc := hnr3.cell
      have hnf := hnr3.frozen
      gi_wp2
      go_roundw
      case rel =>
        refine ⟨j + 1, by omega, by go_num, ?_, ?_, ?_⟩
        · exact (Below.heap_setCell W3 ⟨Bn, 0, none⟩ _ Bb hne).trans hbr3
        · have := hnr3.set (.int .i64 (n / p256 (j + 1)))
          rw [← HS.out] at this ⊢
          exact this
        · rw [HD.out]; exact hset _ _ _ hJ3
      case measure => simp [intOf] <;> omega
    · obtain rfl : j = k := by omega
      gi_wp2
      go_end0
      exact ⟨⟨_, rfl⟩, hJ⟩

/-- a range over a function that keeps its own state in a cell (block Bn), and whose loop body is never left early -/
theorem wpIn_range_state {α : Type} {P : Program} {n : Nat} {g : Operand} {ps : Array Tmp} {assign body : Code} {Q : Exit → Act → World → Prop} {a : Act} {w : World}
    (h1 : 1 ≤ n) {gf : Nat} {lb : Array Value} (hg : a.eval g = .func (.func gf) #[] lb) (eg : ∀ args w, (callFunc gf args).run P w = .ok (.enter gf args) w)
    (encs : α → Array Value) (N : Nat) (xs : List α) (Bb Bn : Nat) (hBb : Bb < w.heap.size) (hBn : Bn < w.heap.size) (hps : ∀ x, (encs x).size = ps.size)
    (hiter : ∀ (l : Nat) (J : List α → World → Prop) (W : World), Below w.heap.size w W → (∀ pre W v, J pre W → J pre (W.setCell ⟨Bn, 0, none⟩ v)) →
      (∀ pre x W, J pre W → pre.length < N → YieldAt Fence.wide (n - 1 - 1) P l (encs x) W fun e W' => e = .returned (.bool true) ∧ J (pre ++ [x]) W' ∧ W'.heap[Bb]? = W.heap[Bb]? ∧ W'.heap[Bn]? = W.heap[Bn]?) →
      J [] W → CallsIn Fence.wide (n - 1) P gf (#[.func (.yield l) #[] #[]] ++ lb) W fun e W' => (∃ v, e = .returned v) ∧ J xs W')
    (I : List α → World → Prop) (hset : ∀ pre W v, I pre W → I pre (W.setCell ⟨Bn, 0, none⟩ v)) (hput : ∀ pre W l o, I pre W → w.heap.size ≤ l → (∃ o', W.heap[l]? = some o' ∧ o'.isCells = false) → I pre (W.putObj l o))
    (hal : ∀ o o', I [] ((w.alloc o).alloc o')) (a₁ : α → Act)
    (hassign : ∀ (l : Nat) (x : α) (W : World) (K : Act → World → Prop), K (a₁ x) W →
      assign.wpIn (Fence.wide.inRound l) (n - 1 - 1) P (Exit.then K (fun _ _ _ => False)) { tmps := (ps.zip (encs x)).foldl (fun t (p, v) => t.setIfInBounds p v) a.tmps, defers := [] } W)
    (hbody : ∀ (l : Nat) (pre : List α) (x : α) (W : World), I pre W → pre.length < N → body.wpIn (Fence.wide.inRound l) (n - 1 - 1) P
      (fun e _ W' => e = .normal ∧ I (pre ++ [x]) W' ∧ KeepsOthers W W' ∧ W'.heap[Bb]? = W.heap[Bb]? ∧ W'.heap[Bn]? = W.heap[Bn]?) (a₁ x) W)
    (hdone : ∀ (D : Nat) (W : World), w.heap.size ≤ D → I xs W → W.heap[D]? = some (.deferred (some [])) → Q .normal { a with defers := { target := .collected D, args := #[] } :: a.defers } W) :
    (Code.rangeFunc g ps assign body).wpIn Fence.wide n P Q a w := by
  refine wpIn_rangeFunc ?_
  intro fn hfn
  obtain ⟨rec, hrec⟩ : ∃ rec : LoopState → Loop, rec = fun st => { state := st, pending := none, fn, tmps := a.tmps, params := ps, assign, body, defers := w.heap.size } := ⟨_, rfl⟩
  obtain ⟨W1, hW1⟩ : ∃ W1, (w.alloc (.deferred (some []))).alloc (.loop (rec .ready)) = W1 := ⟨_, rfl⟩
  have hL1 : W1.heap[w.heap.size + 1]? = some (.loop (rec .ready)) := by
    rw [← hW1]; have := World.alloc_heap_new (w.alloc (.deferred (some []))) (.loop (rec .ready)); rwa [World.size_alloc] at this
  have hK1 : W1.heap[w.heap.size]? = some (.deferred (some [])) := by
    rw [← hW1]; exact (Below.heap_alloc _ _ _ (by simp)).trans (World.alloc_heap_new w _)
  have hb1 : Below w.heap.size w W1 := by rw [← hW1]; exact ((Below.refl _ w).alloc (Nat.le_refl _) _).alloc (by simp) _
  refine ⟨w.heap.size + 1, [{ target := .collected w.heap.size, args := #[] }], W1, { target := .fn (.func gf) lb, args := #[.func (.yield (w.heap.size + 1)) #[] #[]] }, W1, gf,
    #[.func (.yield (w.heap.size + 1)) #[] #[]] ++ lb, W1, ?_, ?_, fun _ _ => trivial, ?_, fun _ => h1, ?_⟩
  · rw [← hW1, hrec]; exact run_enterLoop_outer _ _ _ _ _
  · simp only [resolve, hg]
    simp [go_sem]
  · simp [invoke, go_sem, eg]
  · have hsetO : ∀ (W : World) (k : Nat) (o : Obj) (v : Value), W.heap[k]? = some o → o.isCells = false → (W.setCell ⟨Bn, 0, none⟩ v).heap[k]? = some o :=
      fun W k o v hk ho => (KeepsOthers.setCell W ⟨Bn, 0, none⟩ v).same k o hk ho
    refine (hiter (w.heap.size + 1) (fun pre W => I pre W ∧ W.heap[w.heap.size + 1]? = some (.loop (rec .ready)) ∧ W.heap[w.heap.size]? = some (.deferred (some []))) W1 hb1
      (fun pre W v h => ⟨hset pre W v h.1, hsetO _ _ _ _ h.2.1 rfl, hsetO _ _ _ _ h.2.2 rfl⟩) ?_ ⟨by rw [← hW1]; exact hal _ _, hL1, hK1⟩).mono ?_
    · rintro pre x W ⟨hi, hl, hk⟩ hlen
      have hlt : w.heap.size + 1 < W.heap.size := (Array.getElem?_eq_some_iff.1 hl).1
      have hy := run_yield (P := P) (args := encs x) hl (by rw [hrec]; exact hps x)
      rw [hrec] at hy
      refine ⟨fn, _, assign, body, hy, roundIn_of_wpIn hfn (hassign _ x W _ ⟨_, run_beginRound hl (by rw [hrec]), ?_⟩)⟩
      have hl2 : (W.putObj (w.heap.size + 1) (.loop { rec .ready with state := .busy })).heap[w.heap.size + 1]? = some (.loop { rec .ready with state := .busy }) := World.putObj_heap_same hlt
      have hk2 : (W.putObj (w.heap.size + 1) (.loop { rec .ready with state := .busy })).heap[w.heap.size]? = some (.deferred (some [])) := (World.putObj_heap_other (by omega)).trans hk
      refine wpIn_mono (hbody _ pre x _ (hput _ _ _ _ hi (by omega) ⟨_, hl, rfl⟩) hlen) ?_
      rintro e a3 W3 ⟨rfl, hi3, hk3, hb3, hn3⟩
      have hl3 := hk3.same _ _ hl2 rfl
      have hk4 := hk3.same _ _ hk2 rfl
      have hlt3 : w.heap.size + 1 < W3.heap.size := (Array.getElem?_eq_some_iff.1 hl3).1
      refine ⟨_, _, run_endRound (P := P) none hl3, rfl, ⟨hput _ _ _ _ hi3 (by omega) ⟨_, hl3, rfl⟩, ?_, (World.putObj_heap_other (by omega)).trans hk4⟩, ?_, ?_⟩
      · rw [World.putObj_heap_same hlt3]; rw [hrec]; rfl
      · rw [World.putObj_heap_other (by omega), hb3, World.putObj_heap_other (by omega)]
      · rw [World.putObj_heap_other (by omega), hn3, World.putObj_heap_other (by omega)]
    · rintro e W2 ⟨⟨v, rfl⟩, hi, hl, hk⟩
      exact ⟨none, _, by have := run_endLoop (P := P) hl (by rw [hrec]; simp); rw [hrec] at this; exact this, hdone _ _ (Nat.le_refl _) (hput _ _ _ _ hi (by omega) ⟨_, hl, rfl⟩) ((World.putObj_heap_other (by omega)).trans hk)⟩

theorem Tryz.infoU8 : (Tryz.prog.info? 5).map (fun i => (i.zero, i.size, i.bytes)) = some (some (.int .u8 0), 1, 1) := by kernel_rfl

set_option maxRecDepth 100000 in
set_option maxHeartbeats 1000000 in
theorem Bytes_any (n : Int) (k : Nat) (w : World) (hk : k ≤ 4) :
    Calls Tryz.prog 240 #[.int .i64 n, .int .i64 k] w fun e w' => e = .returned (.string ⟨(digits n k).toArray⟩) ∧ Below w.heap.size w w' := by
  refine (callsIn_wide (n := 3)).1 ?_
  obtain ⟨i0, hi, hz0, hz1, hz2⟩ := info_parts Tryz.infoU8
  refine callsIn_of_wp_marks Tryz.func240 rfl trivial ?_ rfl
  simp only [Tryz.ntmps240, List.size_toArray, List.length_cons, List.length_nil, Nat.reduceAdd, Nat.reduceSub, Array.replicate_succ, Array.replicate_zero, List.push_toArray, List.append_toArray, List.nil_append, List.cons_append]
  gi_wp2
  refine ⟨trivial, (callsIn_wide.2 (each_any _ _ _)).mono ?_⟩
  rintro e w' ⟨rfl, rfl⟩
  gi_wp2
  have bO := ((Boxed.new w 135 (.slice none 0 0)).alloc (.cells #[.int .i64 k] 3)).alloc (.cells #[.int .i64 n] 3)
  have bB := (Boxed.new (w.alloc (.cells #[.slice none 0 0] 135)) 3 (.int .i64 k)).alloc (.cells #[.int .i64 n] 3)
  have bN := Boxed.new ((w.alloc (.cells #[.slice none 0 0] 135)).alloc (.cells #[.int .i64 k] 3)) 3 (.int .i64 n)
  simp only [World.size_alloc] at bB bN
  have hB0 : Below w.heap.size w (((w.alloc (.cells #[.slice none 0 0] 135)).alloc (.cells #[.int .i64 k] 3)).alloc (.cells #[.int .i64 n] 3)) := (((Below.refl _ w).alloc (Nat.le_refl _) _).alloc (by simp) _).alloc (by simp; omega) _
  refine wpIn_range_state (α := UInt8) (by omega) (gf := 287) (lb := #[.pointer (some ⟨w.heap.size + 1, 0, none⟩), .pointer (some ⟨w.heap.size + 1 + 1, 0, none⟩)]) rfl (enters_of Tryz.func287 (by kernel_rfl) rfl)
    (fun x => #[byteV x]) k (digits n k) (w.heap.size + 1) (w.heap.size + 1 + 1) (by simp) (by simp) (fun _ => rfl)
    (fun l J W hW hJ hY h0 => each1_in _ l _ _ n k hk J hJ (by omega) hY W ((hW.block _ (by simp)).trans bB) ((hW.block _ (by simp)).trans bN) h0)
    (fun pre W => (∃ v, Boxed W w.heap.size 135 v ∧ W.ownsRow w.heap.size 5 1 v pre.length (pre.map byteV)) ∧ (∃ u, Boxed W (w.heap.size + 1) 3 u) ∧ (∃ u, Boxed W (w.heap.size + 1 + 1) 3 u) ∧ Below w.heap.size w W) ?hset ?hput ?hal
    (fun x => { tmps := #[.int .i64 n, .int .i64 k, undef, undef, .string ⟨#[]⟩, .pointer (some ⟨w.heap.size, 0, none⟩), byteV x, .int .i64 k, .int .i64 n, .func (.func 287) #[] #[.pointer (some ⟨w.heap.size + 1, 0, none⟩), .pointer (some ⟨w.heap.size + 1 + 1, 0, none⟩)], byteV x, undef, undef, undef, undef, undef, undef], defers := [] }) ?hassign ?hbody ?hdone
  case hset =>
    rintro pre W v ⟨⟨u, hu, hr⟩, ⟨ub, hbb⟩, ⟨un, hbn⟩, hb⟩
    exact ⟨⟨u, hu.kept (grownBy_setCell' W _ v) (by simp; omega), hr.kept (grownBy_setCell' W _ v) (.inr (hbn.not_row (by decide) hr).symm)⟩, ⟨ub, hbb.kept (grownBy_setCell' W _ v) (by simp)⟩, ⟨v, hbn.set v⟩, hb.setCell (by simp; omega) _⟩
  case hput =>
    rintro pre W l o ⟨⟨u, hu, hr⟩, ⟨ub, hbb⟩, ⟨un, hbn⟩, hb⟩ hl ⟨o', ho', hc'⟩
    have ne : ∀ {b t v}, Boxed W b t v → some b ≠ some l := by
      intro b t v hbx e
      cases e
      rw [show W.heap[l]? = _ from hbx] at ho'; cases ho'; cases hc'
    exact ⟨⟨u, hu.kept (grownBy_putObj' W l o) (ne hu), ownsRow_putObj hr _ ho' hc'⟩, ⟨ub, hbb.kept (grownBy_putObj' W l o) (ne hbb)⟩, ⟨un, hbn.kept (grownBy_putObj' W l o) (ne hbn)⟩,
      hb.trans ⟨rfl, rfl, rfl, by simp, fun k hk => World.putObj_heap_other (by simp at hl; omega)⟩⟩
  case hal =>
    intro o o'
    exact ⟨⟨_, (bO.alloc o).alloc o', World.ownsRow_nil _ _ _ _⟩, ⟨_, (bB.alloc o).alloc o'⟩, ⟨_, (bN.alloc o).alloc o'⟩, (hB0.alloc (by simp; omega) o).alloc (by simp; omega) o'⟩
  case hassign =>
    intro l x W K hK
    gi_wp2
    exact hK
  case hbody =>
    rintro l pre x W ⟨⟨v, hv, hrow⟩, ⟨ub, hbb⟩, ⟨un, hbn⟩, hB⟩ hlt
    have hc := hv.cell
    gi_wp2_with (gi_at_builtin; refine wpListIn_append_own _ rfl _ _ 135 rfl w.heap.size 5 i0 (.int .u8 0) 1 1 Tryz.underlying135 hi hz0 hz1 hz2 rfl (by decide) _ _ _ rfl (hrow.alloc _) ⟨W.heap.size, 0, none⟩ 1 1 [byteV x] rfl rfl (cell_one_new _ _ _) (by simp [Value.oneCell']) (by simp only [maxLen]; omega) (by omega) (by have := hB.size; simp; omega) ?_; intro v' w1 hown' hgrow _; obtain ⟨g', cap', rfl⟩ := ownsRow_succ hown'; obtain ⟨hv1, hv2, hr2, hk2, hb2⟩ := hv.appended (by decide) hrow hB.size (Nat.le_refl _) hown' hgrow; have hc1 := hv1.cell; have hf1 := hv1.frozen)
    have kb := ((hbb.alloc _).kept hgrow (hbb.not_row (by decide) hrow)).kept (grownBy_setCell' w1 w.heap.size (.slice (some ⟨g', 0, none⟩) (pre.length + 1) cap')) (by simp)
    have kn := ((hbn.alloc _).kept hgrow (hbn.not_row (by decide) hrow)).kept (grownBy_setCell' w1 w.heap.size (.slice (some ⟨g', 0, none⟩) (pre.length + 1) cap')) (by simp; omega)
    exact ⟨⟨⟨_, hv2, by simpa using hr2⟩, ⟨_, kb⟩, ⟨_, kn⟩, hB.trans hb2⟩, kb.trans hbb.symm, kn.trans hbn.symm⟩
  case hdone =>
    rintro D W hD ⟨⟨v, hv, hrow⟩, _, _, hB⟩ hK
    have hc := hv.cell
    have hcv := conv_bytes_own Tryz.underlying135 Tryz.underlying5 Tryz.underlying9 hrow
    gi_wp2
    refine ⟨by simp, .inl ⟨_, _, rfl, run_takeDeferred hK, ?_⟩⟩
    exact ⟨_, results_tmp rfl _ _ _, rfl, hB.trans (belowK_b (w := w) (Nat.le_refl _) W D _ _ (by simp at hD; omega) hK rfl rfl)⟩
end Go.Proofs.YtjiedaialianmaaGreat
end

section

namespace Go.Proofs.YtjiedaialianmaaGreat
open Go.RowKit

/-- a text with a number at a place -/
def putStr (s : ByteArray) (a k : Nat) (n : Int) : ByteArray := ⟨(s.data.toList.take a ++ digits n k ++ s.data.toList.drop (a + k)).toArray⟩

set_option maxHeartbeats 400000 in
theorem Put_ok (s : ByteArray) (a k : Nat) (n : Int) (w : World) (hs : s.size ≤ 140737488351232) (hok : checkWord s.size a k = 0) :
    Calls Tryz.prog 255 #[.string s, .int .i64 a, .int .i64 k, .int .i64 n] w fun e w' => e = .returned (.tuple #[.string (putStr s a k n), .int .i64 0]) ∧ Below w.heap.size w w' := by
  obtain ⟨h1, h2, h3, h4, h5⟩ := checkWord_ok hok
  go_enter Tryz.func255, Tryz.ntmps255
  go_wp2_with (first | (go_at_call 241; refine (width_any _ _ _ _ hs).mono ?_; rintro e w' ⟨rfl, rfl⟩))
  have q1 : IntKind.i64.wrap ((a : Int) + k) = (a : Int) + k := IntWalk.i64_in _ (by omega)
  have q2 : (0 : Int) ≤ (a : Int) + k := by omega
  have q3 : ((a : Int) + k).toNat = a + k := by omega
  have q4 : (a : Int) + k ≤ s.size := by omega
  have hz1 : (s.extract 0 a).size ≤ s.size := by rw [ByteArray.size_extract]; omega
  have hz2 : (s.extract (a + k) s.size).size ≤ s.size := by rw [ByteArray.size_extract]; omega
  have hz3 : (ByteArray.mk (digits n k).toArray).size = k := by simp [ByteArray.size, digits_length]
  have a1 : ∀ W, (Op.stringOp .add (s.extract 0 a) ⟨(digits n k).toArray⟩).run Tryz.prog W = .ok (.string (s.extract 0 a ++ ⟨(digits n k).toArray⟩)) W := fun W => run_string_add_sum _ _ _ (by omega)
  have a2 : ∀ W, (Op.stringOp .add (s.extract 0 a ++ ⟨(digits n k).toArray⟩) (s.extract (a + k) s.size)).run Tryz.prog W = .ok (.string (s.extract 0 a ++ ⟨(digits n k).toArray⟩ ++ s.extract (a + k) s.size)) W := fun W => run_string_add_sum _ _ _ (by rw [ByteArray.size_append]; omega)
  clear hz1 hz2 hz3
  go_region_held3 (fun w' => Below w.heap.size w w') (first | exact Below.refl _ _ | exact Below.drew (Below.refl _ _) | exact below_step (by assumption) (by assumption) | exact Below.drew (by assumption) | assumption)
    (first | (go_at_call 240; refine (Bytes_any _ _ _ (by omega)).mono ?_; rintro e w1 ⟨rfl, hb1⟩))
  clear a1 a2 q1 q2 q3
  go_wp2_with fail
  go_ret2
  refine ⟨ret_sint (ba_eq ?_) rfl, by assumption⟩
  rw [ba_append, ba_append, Lib.extract_to_end, Lib.extract_data]
  simp [putStr]

set_option maxHeartbeats 400000 in
theorem BytesOf_any (n : Int) (k : Nat) (w : World) (hk : k ≤ 4) :
    Calls Tryz.prog 143 #[.int .i64 n, .int .i64 k] w fun e w' => e = .returned (.string ⟨(digits n k).toArray⟩) ∧ Below w.heap.size w w' := by
  go_enter Tryz.func143, Tryz.ntmps143
  go_wp2_with (first | (go_at_call 205; refine (power8 _ _ (by omega)).mono ?_; rintro e w' ⟨rfl, rfl⟩) | (go_at_call 204; refine (modulo_any _ _ _ (p256_pos _) (p256_le _ (by omega))).mono ?_; rintro e w' ⟨rfl, rfl⟩))
  obtain ⟨N, hN⟩ : ∃ N, N = n % p256 k := ⟨_, rfl⟩
  have hN0 : 0 ≤ N := by rw [hN]; exact Int.emod_nonneg _ (by have := p256_pos k; omega)
  have hN1 : N ≤ 4294967296 := by
    have h1 := Int.emod_lt_of_pos n (show 0 < p256 k by have := p256_pos k; omega)
    have h2 := p256_le k hk
    omega
  have HN := Lib.hid (show digits N k = digits n k by rw [hN, digits_mod])
  rw [← hN]
  clear hN
  go_loopw [5, 0, 6] (fun s v i wr => ∃ j : Nat, j ≤ k ∧ i = .int .i64 j ∧ s = .string ⟨(digits N j).toArray⟩ ∧ v = .int .i64 (N / p256 j) ∧ Below w.heap.size w wr) (fun _ _ i _ => k - (intOf i).toNat)
  case atStart => exact ⟨0, by omega, by go_num, rfl, by simp [p256], Below.refl _ _⟩
  case round =>
    obtain ⟨j, hj, rfl, rfl, rfl, hbl⟩ := hrel
    by_cases hlt : j < k
    · have hq0 : 0 ≤ N / p256 j := Int.ediv_nonneg hN0 (by have := p256_pos j; omega)
      have hq1 : N / p256 j ≤ 4294967296 := Int.le_trans (Int.ediv_le_self _ hN0) hN1
      have HS := Lib.hid (p256_step N j)
      have HD := Lib.hid (digits_snoc N j)
      have hcv := conv_one (P := Tryz.prog) Tryz.underlying135 Tryz.underlying5 Tryz.underlying9
      have had : ∀ W, (Op.stringOp .add ⟨(digits N j).toArray⟩ ⟨#[UInt8.ofNat (N / p256 j % 256).toNat]⟩).run Tryz.prog W = .ok (.string ⟨(digits N j ++ [UInt8.ofNat (N / p256 j % 256).toNat]).toArray⟩) W := fun W => by
        rw [run_string_add_sum _ _ _ (by simp [ByteArray.size, digits_length]; omega)]
        congr 2; try exact ba_eq (by simp [ba_append])
      go_wp2_with fail
      go_roundw
      case rel =>
        refine ⟨j + 1, by omega, by go_num, by rw [HD.out], by rw [← HS.out], hbl.alloc hbl.size _⟩
      case measure => (simp [intOf]; try omega)
    · obtain rfl : j = k := by omega
      go_wp2_with fail
      go_ret
      exact ⟨by simp [HN.out], hbl⟩


theorem putStr_size (s : ByteArray) (a k : Nat) (n : Int) (h : a + k ≤ s.size) : (putStr s a k n).size = s.size := by
  have e : (putStr s a k n).size = (s.data.toList.take a ++ digits n k ++ s.data.toList.drop (a + k)).length := by unfold putStr; rfl
  have hl : s.data.toList.length = s.size := rfl
  rw [e, List.length_append, List.length_append, digits_length, List.length_take, List.length_drop]; omega

end Go.Proofs.YtjiedaialianmaaGreat
end

section

namespace Go.Proofs.YtjiedaialianmaaGreat
open Go.RowKit

set_option maxHeartbeats 400000 in
theorem within_any (n a b : Int) (w : World) :
    Calls Tryz.prog 217 #[.int .i64 n, .int .i64 a, .int .i64 b] w fun e w' => e = .returned (.bool (decide (a ≤ n) && decide (n ≤ b))) ∧ w = w' := by
  go_enter Tryz.func217, Tryz.ntmps217
  go_wp2_with fail
  all_goals (go_ret; exact ⟨ret_bool (by rw [Bool.eq_iff_iff]; simp; omega), rfl⟩)

theorem within_t (n a b : Int) (w : World) (h1 : a ≤ n) (h2 : n ≤ b) :
    Calls Tryz.prog 217 #[.int .i64 n, .int .i64 a, .int .i64 b] w fun e w' => e = .returned (.bool true) ∧ w = w' :=
  (within_any n a b w).mono fun _ _ h => ⟨h.1.trans (ret_bool (by simp; omega)), h.2⟩
theorem within_f (n a b : Int) (w : World) (h : n < a ∨ b < n) :
    Calls Tryz.prog 217 #[.int .i64 n, .int .i64 a, .int .i64 b] w fun e w' => e = .returned (.bool false) ∧ w = w' :=
  (within_any n a b w).mono fun _ _ h' => ⟨h'.1.trans (ret_bool (by simp; omega)), h'.2⟩

set_option maxHeartbeats 1000000 in
theorem MWidth_any (k : Int) (w : World) :
    Calls Tryz.prog 235 #[.int .i64 k] w fun e w' => e = .returned (.int .i64 (widthOf k)) ∧ Below w.heap.size w w' := by
  rcases widthOf_cases k with ⟨rfl, h⟩ | ⟨rfl, h⟩ | ⟨rfl, h⟩ | ⟨rfl, h⟩ | ⟨rfl, h⟩ | ⟨hk, h⟩
  all_goals
    have H := Lib.hid h
    clear h
    go_enter Tryz.func235, Tryz.ntmps235
    go_wp2_with (first | (go_at_call 217; (with_reducible refine (within_t _ _ _ _ ?_ ?_).mono ?_); (focus (first | omega | assumption)); (focus (first | omega | assumption)); rintro e w' ⟨rfl, rfl⟩) | (go_at_call 217; (with_reducible refine (within_f _ _ _ _ ?_).mono ?_); (focus (first | omega | assumption)); rintro e w' ⟨rfl, rfl⟩) | (go_at_call 217; (with_reducible refine (within_any _ _ _ _).mono ?_); rintro e w' ⟨rfl, rfl⟩))
  all_goals first | (go_ret; rw [H.out]; first | exact ⟨rfl, Below.refl _ _⟩ | exact ⟨rfl, (Below.refl _ _).alloc (Nat.le_refl _) _⟩) | (exfalso; simp at *; omega)

set_option maxHeartbeats 400000 in
theorem WidthOf_any (k : Int) (w : World) :
    Calls Tryz.prog 179 #[.int .i64 k] w fun e w' => e = .returned (.int .i64 (widthOf k)) ∧ w = w' := by
  go_enter Tryz.func179, Tryz.ntmps179
  go_wp2_with fail
  all_goals (go_ret; exact ⟨ret_int (by simp at *; unfold widthOf; (repeat' split) <;> omega), rfl⟩)


def madeNum (kind sum place : Int) : Int := if kind = 2 then sum - place else if kind = 3 then sum / 65536 else if kind = 5 then (sum - place).tdiv 2 else sum
def madeOk (kind sum place : Int) : Bool := !(decide (kind = 5) && decide ((sum - place) % 2 = 1))

set_option maxHeartbeats 1000000 in
theorem made_any (kind sum place : Int) (w : World) (h1 : 0 ≤ sum) (h2 : sum ≤ 131070) (h3 : 0 ≤ place) (h4 : place ≤ 65535) (hk : widthOf kind ≠ 0) :
    Calls Tryz.prog 284 #[.int .i64 kind, .int .i64 sum, .int .i64 place] w fun e w' =>
      e = .returned (.tuple #[.int .i64 (madeNum kind sum place), .bool (madeOk kind sum place)]) ∧ w = w' := by
  have HD := Lib.hid (tdiv2 (sum - place))
  have HM := Lib.hid (tmod2 (sum - place))
  rcases widthOf_cases kind with ⟨rfl, h⟩ | ⟨rfl, h⟩ | ⟨rfl, h⟩ | ⟨rfl, h⟩ | ⟨rfl, h⟩ | ⟨_, h⟩
  · clear h hk
    go_enter Tryz.func284, Tryz.ntmps284
    go_wp2_with fail
    go_ret2
    exact ⟨by simp [madeNum, madeOk], rfl⟩
  · clear h hk
    go_enter Tryz.func284, Tryz.ntmps284
    go_wp2_with fail
    go_ret2
    exact ⟨by simp [madeNum, madeOk], rfl⟩
  · clear h hk
    go_enter Tryz.func284, Tryz.ntmps284
    go_wp2_with fail
    go_ret2
    exact ⟨by simp [madeNum, madeOk], rfl⟩
  · clear h hk
    go_enter Tryz.func284, Tryz.ntmps284
    go_wp2_with fail
    go_ret2
    exact ⟨by simp [madeNum, madeOk], rfl⟩
  · clear h hk
    go_enter Tryz.func284, Tryz.ntmps284
    go_wp2_with fail
    all_goals
      have hd := HD.out
      have hm := HM.out
      clear HD HM
      go_ret2
      refine ⟨?_, rfl⟩
      have e : madeOk 5 sum place = decide ((sum - place).tmod 2 = 0) := by
        unfold madeOk; rw [Bool.eq_iff_iff]; simp; split at hm <;> omega
      rw [e]
      simp [madeNum]
      try (split at hm <;> split at hd <;> omega)
  · exact absurd h hk

theorem in_any (n : Int) (w : World) :
    Calls Tryz.prog 283 #[.int .i64 n] w fun e w' => e = .returned (.bool (decide (0 ≤ n) && decide (n < 65536))) ∧ w = w' := by
  go_enter Tryz.func283, Tryz.ntmps283
  go_wp2_with fail
  all_goals (go_ret; exact ⟨ret_bool (by rw [Bool.eq_iff_iff]; simp; omega), rfl⟩)
theorem mask_w (w : Int) (h : w = 2 ∨ w = 3 ∨ w = 4) (n : Int) : bits .and .i64 n (2 ^ (8 * w).toNat - 1) = n % p256 w.toNat := by
  rcases h with rfl | rfl | rfl
  · exact (and_mask n 16 (by omega)).trans rfl
  · exact (and_mask n 24 (by omega)).trans rfl
  · exact (and_mask n 32 (by omega)).trans rfl

set_option maxHeartbeats 1000000 in
theorem Value_any (kind sym add place : Int) (w : World) :
    Calls Tryz.prog 254 #[.int .i64 kind, .int .i64 sym, .int .i64 add, .int .i64 place] w fun e w' =>
      e = .returned (.tuple #[.int .i64 (valueNum kind sym add place), .int .i64 (valueErr kind sym add place)]) ∧ Below w.heap.size w w' := by
  by_cases h0 : widthOf kind = 0
  · have h1 : valueErr kind sym add place = 7 := by unfold valueErr; rw [if_pos h0]
    have h2 : valueNum kind sym add place = 0 := by unfold valueNum; rw [h1, if_neg (by omega)]
    rw [h1, h2]
    clear h1 h2
    go_enter Tryz.func254, Tryz.ntmps254
    go_wp2_with (first | (go_at_call 235; (with_reducible refine (MWidth_any _ _).mono ?_); rintro e w1 ⟨rfl, hb1⟩) | (go_at_call 283; (with_reducible refine (in_any _ _).mono ?_); rintro e w' ⟨rfl, rfl⟩))
    all_goals (go_ret2; exact ⟨by simp, by assumption⟩)
  · by_cases hr : sym < 0 ∨ 65535 < sym ∨ place < 0 ∨ 65535 < place ∨ add < 0 ∨ 65535 < add
    · have h1 : valueErr kind sym add place = 3 := by unfold valueErr; rw [if_neg h0, if_pos hr]
      have h2 : valueNum kind sym add place = 0 := by unfold valueNum; rw [h1, if_neg (by omega)]
      rw [h1, h2]
      clear h1 h2
      have h0' : (widthOf kind == 0) = false := by simp [h0]
      go_enter Tryz.func254, Tryz.ntmps254
      go_wp2_with (first | (go_at_call 235; (with_reducible refine (MWidth_any _ _).mono ?_); rintro e w1 ⟨rfl, hb1⟩) | (go_at_call 283; (with_reducible refine (in_any _ _).mono ?_); rintro e w' ⟨rfl, rfl⟩) | (go_at_call 284; (with_reducible refine (made_any _ _ _ _ (by simp at *; omega) (by simp at *; omega) (by simp at *; omega) (by simp at *; omega) h0).mono ?_); rintro e w' ⟨rfl, rfl⟩))
      all_goals (go_ret2; exact ⟨by simp, by assumption⟩)
    · have hr' : 0 ≤ sym ∧ sym ≤ 65535 ∧ 0 ≤ place ∧ place ≤ 65535 ∧ 0 ≤ add ∧ add ≤ 65535 := by omega
      obtain ⟨r1, r2, r3, r4, r5, r6⟩ := hr'
      have h0' : (widthOf kind == 0) = false := by simp [h0]
      by_cases ho : kind = 5 ∧ (sym + add - place) % 2 = 1
      · have h1 : valueErr kind sym add place = 4 := by unfold valueErr; rw [if_neg h0, if_neg hr, if_pos ho]
        have h2 : valueNum kind sym add place = 0 := by unfold valueNum; rw [h1, if_neg (by omega)]
        have h3 : madeOk kind (sym + add) place = false := by simp [madeOk, ho]
        rw [h1, h2]
        clear h1 h2 ho hr
        go_enter Tryz.func254, Tryz.ntmps254
        go_wp2_with (first | (go_at_call 235; (with_reducible refine (MWidth_any _ _).mono ?_); rintro e w1 ⟨rfl, hb1⟩) | (go_at_call 283; (with_reducible refine (in_any _ _).mono ?_); rintro e w' ⟨rfl, rfl⟩) | (go_at_call 284; (with_reducible refine (made_any _ _ _ _ (by omega) (by omega) (by omega) (by omega) h0).mono ?_); rintro e w' ⟨rfl, rfl⟩))
        all_goals first | (go_ret2; exact ⟨by simp, by assumption⟩) | (exfalso; omega)
      · have h1 : valueErr kind sym add place = 0 := by unfold valueErr; rw [if_neg h0, if_neg hr, if_neg ho]
        have h2 : valueNum kind sym add place = madeNum kind (sym + add) place % p256 (widthOf kind).toNat := by
          unfold valueNum; rw [h1, if_pos rfl]
          congr 1
          have hd := tdiv2 (sym + add - place)
          unfold valueRaw madeNum
          (repeat' split) <;> first | rfl | (split at hd <;> omega)
        have h3 : madeOk kind (sym + add) place = true := by
          unfold madeOk; simp; omega
        have hw : widthOf kind = 2 ∨ widthOf kind = 3 ∨ widthOf kind = 4 := by rcases widthOf_cases kind with ⟨_, h⟩ | ⟨_, h⟩ | ⟨_, h⟩ | ⟨_, h⟩ | ⟨_, h⟩ | ⟨_, h⟩ <;> omega
        have hm := mask_w (widthOf kind) hw (madeNum kind (sym + add) place)
        rw [h1, h2]
        have h5 : 16 ≤ 8 * widthOf kind := by omega
        have h6 : 8 * widthOf kind ≤ 32 := by omega
        obtain ⟨k1, k2, _⟩ := pow2_facts (8 * widthOf kind).toNat (by omega) (by omega)
        have hp : wrap64 (2 ^ (8 * widthOf kind).toNat) = 2 ^ (8 * widthOf kind).toNat := IntWalk.wrap64_in _ (by omega)
        have HM := Lib.hid hm
        clear h1 h2 ho hr hm hw
        have h7 : 2 ≤ widthOf kind := by omega
        have h8 : widthOf kind ≤ 4 := by omega
        go_enter Tryz.func254, Tryz.ntmps254
        go_wp2_with (first | (go_at_call 235; (with_reducible refine (MWidth_any _ _).mono ?_); rintro e w1 ⟨rfl, hb1⟩) | (go_at_call 283; (with_reducible refine (in_any _ _).mono ?_); rintro e w' ⟨rfl, rfl⟩) | (go_at_call 284; (with_reducible refine (made_any _ _ _ _ (by omega) (by omega) (by omega) (by omega) h0).mono ?_); rintro e w' ⟨rfl, rfl⟩))
        go_ret2
        exact ⟨ret_ints HM.out rfl, hb1⟩

set_option maxHeartbeats 1000000 in
theorem ValueOf_any (kind sym add place : Int) (w : World) :
    Calls Tryz.prog 259 #[.int .i64 kind, .int .i64 sym, .int .i64 add, .int .i64 place] w fun e w' =>
      e = .returned (.tuple #[.int .i64 (valueNum kind sym add place), .int .i64 (valueErr kind sym add place)]) ∧ Below w.heap.size w w' := by
  have h5 := widthOf_cases kind
  by_cases h0 : widthOf kind = 0
  · have h1 : valueErr kind sym add place = 7 := by unfold valueErr; rw [if_pos h0]
    have h2 : valueNum kind sym add place = 0 := by unfold valueNum; rw [h1, if_neg (by omega)]
    rw [h1, h2]
    clear h1 h2 h5
    go_enter Tryz.func259, Tryz.ntmps259
    go_wp2_with (first | (go_at_call 179; (with_reducible refine (WidthOf_any _ _).mono ?_); rintro e w' ⟨rfl, rfl⟩) | (go_at_call 75; (with_reducible refine (between_t _ _ _ _ ?_ ?_).mono ?_); (focus (first | omega | assumption)); (focus (first | omega | assumption)); rintro e w' ⟨rfl, rfl⟩) | (go_at_call 75; (with_reducible refine (between_f _ _ _ _ ?_).mono ?_); (focus (first | omega | assumption)); rintro e w' ⟨rfl, rfl⟩) | (go_at_call 75; (with_reducible refine (between_any _ _ _ _).mono ?_); rintro e w' ⟨rfl, rfl⟩))
    all_goals (go_ret2; exact ⟨by simp, Below.refl _ _⟩)
  · by_cases hr : sym < 0 ∨ 65535 < sym ∨ place < 0 ∨ 65535 < place ∨ add < 0 ∨ 65535 < add
    · have h1 : valueErr kind sym add place = 3 := by unfold valueErr; rw [if_neg h0, if_pos hr]
      have h2 : valueNum kind sym add place = 0 := by unfold valueNum; rw [h1, if_neg (by omega)]
      rw [h1, h2]
      clear h1 h2 h5
      have h0' : (widthOf kind == 0) = false := by simp [h0]
      have hc : (sym < 0 ∨ 65535 < sym) ∨ (0 ≤ sym ∧ sym ≤ 65535 ∧ (place < 0 ∨ 65535 < place)) ∨ (0 ≤ sym ∧ sym ≤ 65535 ∧ 0 ≤ place ∧ place ≤ 65535 ∧ (add < 0 ∨ 65535 < add)) := by omega
      clear hr
      rcases hc with (hc | hc) | ⟨g1, g2, hc | hc⟩ | ⟨g1, g2, g3, g4, hc | hc⟩
      all_goals
        go_enter Tryz.func259, Tryz.ntmps259
        go_wp2_with (first | (go_at_call 179; (with_reducible refine (WidthOf_any _ _).mono ?_); rintro e w' ⟨rfl, rfl⟩) | (go_at_call 75; (with_reducible refine (between_t _ _ _ _ ?_ ?_).mono ?_); (focus (first | omega | assumption)); (focus (first | omega | assumption)); rintro e w' ⟨rfl, rfl⟩) | (go_at_call 75; (with_reducible refine (between_f _ _ _ _ ?_).mono ?_); (focus (first | omega | assumption)); rintro e w' ⟨rfl, rfl⟩) | (go_at_call 75; (with_reducible refine (between_any _ _ _ _).mono ?_); rintro e w' ⟨rfl, rfl⟩))
        go_ret2
        exact ⟨by simp, Below.refl _ _⟩
    · have hr' : 0 ≤ sym ∧ sym ≤ 65535 ∧ 0 ≤ place ∧ place ≤ 65535 ∧ 0 ≤ add ∧ add ≤ 65535 := by omega
      obtain ⟨r1, r2, r3, r4, r5, r6⟩ := hr'
      have p32 := fun W => (power_any 32 W (by omega) (by omega)).mono (fun _ _ h => (⟨h.1.trans (ret_int (by decide)), h.2⟩ : _ = Ending.returned (.int .i64 4294967296) ∧ _))
      have p24 := fun W => (power_any 24 W (by omega) (by omega)).mono (fun _ _ h => (⟨h.1.trans (ret_int (by decide)), h.2⟩ : _ = Ending.returned (.int .i64 16777216) ∧ _))
      have p16 := fun W => (power_any 16 W (by omega) (by omega)).mono (fun _ _ h => (⟨h.1.trans (ret_int (by decide)), h.2⟩ : _ = Ending.returned (.int .i64 65536) ∧ _))
      have P32 := Lib.hid p32
      have P24 := Lib.hid p24
      have P16 := Lib.hid p16
      clear p32 p24 p16
      have wk : ∀ k v, widthOf k = v → ∀ W, Calls Tryz.prog 179 #[.int .i64 k] W fun e w' => e = .returned (.int .i64 v) ∧ W = w' := fun k v hv W => (WidthOf_any k W).mono fun _ _ h => ⟨h.1.trans (ret_int hv), h.2⟩
      rcases h5 with ⟨rfl, hw⟩ | ⟨rfl, hw⟩ | ⟨rfl, hw⟩ | ⟨rfl, hw⟩ | ⟨rfl, hw⟩ | ⟨_, hw⟩
      · have h1 : valueErr 1 sym add place = 0 := by unfold valueErr; rw [if_neg h0, if_neg hr, if_neg (by omega)]
        have h2 : valueNum 1 sym add place = (sym + add) % 4294967296 := by unfold valueNum; rw [h1, if_pos rfl]; rfl
        rw [h1, h2]
        have WK := Lib.hid (wk _ _ hw)
        clear h1 h2 hr wk hw h0
        go_enter Tryz.func259, Tryz.ntmps259
        go_wp2_with (first | (go_at_call 179; (with_reducible refine (WK.out _).mono ?_); rintro e w' ⟨rfl, rfl⟩) | (go_at_call 75; (with_reducible refine (between_t _ _ _ _ ?_ ?_).mono ?_); (focus (first | omega | assumption)); (focus (first | omega | assumption)); rintro e w' ⟨rfl, rfl⟩) | (go_at_call 75; (with_reducible refine (between_f _ _ _ _ ?_).mono ?_); (focus (first | omega | assumption)); rintro e w' ⟨rfl, rfl⟩) | (go_at_call 75; (with_reducible refine (between_any _ _ _ _).mono ?_); rintro e w' ⟨rfl, rfl⟩) | (go_at_call 205; (with_reducible refine (P32.out _).mono ?_); rintro e w' ⟨rfl, rfl⟩) | (go_at_call 204; (with_reducible refine (modulo_any _ _ _ (by omega) (by omega)).mono ?_); rintro e w' ⟨rfl, rfl⟩))
        go_ret2
        exact ⟨by simp, Below.refl _ _⟩
      · have h1 : valueErr 2 sym add place = 0 := by unfold valueErr; rw [if_neg h0, if_neg hr, if_neg (by omega)]
        have h2 : valueNum 2 sym add place = (sym + add - place) % 4294967296 := by unfold valueNum; rw [h1, if_pos rfl]; rfl
        rw [h1, h2]
        have WK := Lib.hid (wk _ _ hw)
        clear h1 h2 hr wk hw h0
        go_enter Tryz.func259, Tryz.ntmps259
        go_wp2_with (first | (go_at_call 179; (with_reducible refine (WK.out _).mono ?_); rintro e w' ⟨rfl, rfl⟩) | (go_at_call 75; (with_reducible refine (between_t _ _ _ _ ?_ ?_).mono ?_); (focus (first | omega | assumption)); (focus (first | omega | assumption)); rintro e w' ⟨rfl, rfl⟩) | (go_at_call 75; (with_reducible refine (between_f _ _ _ _ ?_).mono ?_); (focus (first | omega | assumption)); rintro e w' ⟨rfl, rfl⟩) | (go_at_call 75; (with_reducible refine (between_any _ _ _ _).mono ?_); rintro e w' ⟨rfl, rfl⟩) | (go_at_call 205; (with_reducible refine (P32.out _).mono ?_); rintro e w' ⟨rfl, rfl⟩) | (go_at_call 204; (with_reducible refine (modulo_any _ _ _ (by omega) (by omega)).mono ?_); rintro e w' ⟨rfl, rfl⟩))
        go_ret2
        exact ⟨by simp, Below.refl _ _⟩
      · have h1 : valueErr 3 sym add place = 0 := by unfold valueErr; rw [if_neg h0, if_neg hr, if_neg (by omega)]
        have h2 : valueNum 3 sym add place = (sym + add) / 65536 % 65536 := by unfold valueNum; rw [h1, if_pos rfl]; rfl
        rw [h1, h2]
        have WK := Lib.hid (wk _ _ hw)
        clear h1 h2 hr wk hw h0
        go_enter Tryz.func259, Tryz.ntmps259
        go_wp2_with (first | (go_at_call 179; (with_reducible refine (WK.out _).mono ?_); rintro e w' ⟨rfl, rfl⟩) | (go_at_call 75; (with_reducible refine (between_t _ _ _ _ ?_ ?_).mono ?_); (focus (first | omega | assumption)); (focus (first | omega | assumption)); rintro e w' ⟨rfl, rfl⟩) | (go_at_call 75; (with_reducible refine (between_f _ _ _ _ ?_).mono ?_); (focus (first | omega | assumption)); rintro e w' ⟨rfl, rfl⟩) | (go_at_call 75; (with_reducible refine (between_any _ _ _ _).mono ?_); rintro e w' ⟨rfl, rfl⟩) | (go_at_call 205; (with_reducible refine (P16.out _).mono ?_); rintro e w' ⟨rfl, rfl⟩) | (go_at_call 204; (with_reducible refine (modulo_any _ _ _ (by omega) (by omega)).mono ?_); rintro e w' ⟨rfl, rfl⟩))
        go_ret2
        exact ⟨by simp, Below.refl _ _⟩
      · have h1 : valueErr 4 sym add place = 0 := by unfold valueErr; rw [if_neg h0, if_neg hr, if_neg (by omega)]
        have h2 : valueNum 4 sym add place = (sym + add) % 65536 := by unfold valueNum; rw [h1, if_pos rfl]; rfl
        rw [h1, h2]
        have WK := Lib.hid (wk _ _ hw)
        clear h1 h2 hr wk hw h0
        go_enter Tryz.func259, Tryz.ntmps259
        go_wp2_with (first | (go_at_call 179; (with_reducible refine (WK.out _).mono ?_); rintro e w' ⟨rfl, rfl⟩) | (go_at_call 75; (with_reducible refine (between_t _ _ _ _ ?_ ?_).mono ?_); (focus (first | omega | assumption)); (focus (first | omega | assumption)); rintro e w' ⟨rfl, rfl⟩) | (go_at_call 75; (with_reducible refine (between_f _ _ _ _ ?_).mono ?_); (focus (first | omega | assumption)); rintro e w' ⟨rfl, rfl⟩) | (go_at_call 75; (with_reducible refine (between_any _ _ _ _).mono ?_); rintro e w' ⟨rfl, rfl⟩) | (go_at_call 205; (with_reducible refine (P16.out _).mono ?_); rintro e w' ⟨rfl, rfl⟩) | (go_at_call 204; (with_reducible refine (modulo_any _ _ _ (by omega) (by omega)).mono ?_); rintro e w' ⟨rfl, rfl⟩))
        go_ret2
        exact ⟨by simp, Below.refl _ _⟩
      · have WK := Lib.hid (wk _ _ hw)
        have m1 := fun W => modulo_any (sym + add - place) 2 W (by omega) (by omega)
        have M1 := Lib.hid m1
        clear m1
        have hd := tdiv2 (sym + add - place)
        by_cases ho : (sym + add - place) % 2 = 1
        · have h1 : valueErr 5 sym add place = 4 := by unfold valueErr; rw [if_neg h0, if_neg hr, if_pos ⟨rfl, ho⟩]
          have h2 : valueNum 5 sym add place = 0 := by unfold valueNum; rw [h1, if_neg (by omega)]
          rw [h1, h2]
          clear h1 h2 hr wk hw h0 hd
          go_enter Tryz.func259, Tryz.ntmps259
          go_wp2_with (first | (go_at_call 179; (with_reducible refine (WK.out _).mono ?_); rintro e w' ⟨rfl, rfl⟩) | (go_at_call 75; (with_reducible refine (between_t _ _ _ _ ?_ ?_).mono ?_); (focus (first | omega | assumption)); (focus (first | omega | assumption)); rintro e w' ⟨rfl, rfl⟩) | (go_at_call 75; (with_reducible refine (between_f _ _ _ _ ?_).mono ?_); (focus (first | omega | assumption)); rintro e w' ⟨rfl, rfl⟩) | (go_at_call 75; (with_reducible refine (between_any _ _ _ _).mono ?_); rintro e w' ⟨rfl, rfl⟩) | (go_at_call 204; (with_reducible refine (M1.out _).mono ?_); rintro e w' ⟨rfl, rfl⟩))
          go_ret2
          exact ⟨by simp, Below.refl _ _⟩
        · have h1 : valueErr 5 sym add place = 0 := by unfold valueErr; rw [if_neg h0, if_neg hr, if_neg (by omega)]
          have h2 : valueNum 5 sym add place = (sym + add - place).tdiv 2 % 16777216 := by
            unfold valueNum; rw [h1, if_pos rfl]
            have e : valueRaw 5 sym add place = (sym + add - place) / 2 := by simp [valueRaw]
            rw [e]
            have e2 : (sym + add - place).tdiv 2 = (sym + add - place) / 2 := by split at hd <;> omega
            rw [e2]; rfl
          rw [h1, h2]
          have ho' : (sym + add - place) % 2 = 0 := by omega
          clear h1 h2 hr wk hw h0 hd ho
          go_enter Tryz.func259, Tryz.ntmps259
          go_wp2_with (first | (go_at_call 179; (with_reducible refine (WK.out _).mono ?_); rintro e w' ⟨rfl, rfl⟩) | (go_at_call 75; (with_reducible refine (between_t _ _ _ _ ?_ ?_).mono ?_); (focus (first | omega | assumption)); (focus (first | omega | assumption)); rintro e w' ⟨rfl, rfl⟩) | (go_at_call 75; (with_reducible refine (between_f _ _ _ _ ?_).mono ?_); (focus (first | omega | assumption)); rintro e w' ⟨rfl, rfl⟩) | (go_at_call 75; (with_reducible refine (between_any _ _ _ _).mono ?_); rintro e w' ⟨rfl, rfl⟩) | (go_at_call 204; (with_reducible refine (M1.out _).mono ?_); rintro e w' ⟨rfl, rfl⟩) | (go_at_call 205; (with_reducible refine (P24.out _).mono ?_); rintro e w' ⟨rfl, rfl⟩) | (go_at_call 204; (with_reducible refine (modulo_any _ _ _ ?_ ?_).mono ?_); (focus (first | omega | assumption)); (focus (first | omega | assumption)); rintro e w' ⟨rfl, rfl⟩))
          go_ret2
          exact ⟨by simp, Below.refl _ _⟩
      · exact absurd hw h0

end Go.Proofs.YtjiedaialianmaaGreat
end

section

namespace Go.Proofs.YtjiedaialianmaaGreat
open Go.RowKit

/-- a text with a patch; empty where something is wrong -/
def applyStr (s : ByteArray) (kind at_ add sym base : Int) : ByteArray :=
  if applyErr s.size kind at_ add sym base = 0 then putStr s at_.toNat (widthOf kind).toNat (valueNum kind sym add (base + at_)) else ⟨#[]⟩

theorem Put_okI (s : ByteArray) (a k n : Int) (w : World) (hs : s.size ≤ 140737488351232) (hok : checkWord s.size a k = 0) :
    Calls Tryz.prog 255 #[.string s, .int .i64 a, .int .i64 k, .int .i64 n] w fun e w' => e = .returned (.tuple #[.string (putStr s a.toNat k.toNat n), .int .i64 0]) ∧ Below w.heap.size w w' := by
  obtain ⟨h1, h2, h3, h4, h5⟩ := checkWord_ok hok
  have e1 : ((a.toNat : Nat) : Int) = a := by omega
  have e2 : ((k.toNat : Nat) : Int) = k := by omega
  have := Put_ok s a.toNat k.toNat n w hs (by rw [e1, e2]; exact hok)
  rwa [e1, e2] at this

theorem width_rng (k : Int) (h : widthOf k ≠ 0) : 2 ≤ widthOf k ∧ widthOf k ≤ 4 := by rcases widthOf_cases k with ⟨_, h⟩ | ⟨_, h⟩ | ⟨_, h⟩ | ⟨_, h⟩ | ⟨_, h⟩ | ⟨_, h⟩ <;> omega

set_option maxHeartbeats 1000000 in
theorem Apply_any (s : ByteArray) (kind at_ y add sym base : Int) (w : World) (hs : s.size ≤ 140737488351232) :
    Calls Tryz.prog 223 #[.string s, .agg #[.int .i64 kind, .int .i64 at_, .int .i64 y, .int .i64 add], .int .i64 sym, .int .i64 base] w fun e w' =>
      e = .returned (.tuple #[.string (applyStr s kind at_ add sym base), .int .i64 (applyErr s.size kind at_ add sym base)]) ∧ Below w.heap.size w w' := by
  by_cases h0 : widthOf kind = 0
  · have h1 : applyErr s.size kind at_ add sym base = 7 := by unfold applyErr; rw [if_pos h0]
    have h2 : applyStr s kind at_ add sym base = ⟨#[]⟩ := by unfold applyStr; rw [h1, if_neg (by omega)]
    rw [h1, h2]
    clear h1 h2
    go_enter Tryz.func223, Tryz.ntmps223
    go_wp2_with (first | (go_at_call 235; (with_reducible refine (MWidth_any _ _).mono ?_); rintro e w1 ⟨rfl, hb1⟩; obtain ⟨hc1, hf1⟩ := bcell hb1; have hz1 : w.heap.size < w1.heap.size := by have := hb1.size; (try simp at this); omega))
    all_goals (go_ret2; exact ⟨by simp, (((Below.refl _ _).alloc (Nat.le_refl _) _).trans (hb1.mono (by simp)))⟩)
  · obtain ⟨g1, g2⟩ := width_rng kind h0
    have h0' : (widthOf kind == 0) = false := by simp [h0]
    by_cases hr : add < 0 ∨ 65535 < add ∨ at_ < 0 ∨ (s.size : Int) - widthOf kind < at_ ∨ base < 0 ∨ 65279 < base
    · have h1 : applyErr s.size kind at_ add sym base = 3 := by unfold applyErr; rw [if_neg h0, if_pos hr]
      have h2 : applyStr s kind at_ add sym base = ⟨#[]⟩ := by unfold applyStr; rw [h1, if_neg (by omega)]
      rw [h1, h2]
      clear h1 h2
      go_enter Tryz.func223, Tryz.ntmps223
      go_wp2_with (first | (go_at_call 235; (with_reducible refine (MWidth_any _ _).mono ?_); rintro e w1 ⟨rfl, hb1⟩; obtain ⟨hc1, hf1⟩ := bcell hb1; have hz1 : w.heap.size < w1.heap.size := by have := hb1.size; (try simp at this); omega))
      all_goals (go_ret2; exact ⟨by simp, (((Below.refl _ _).alloc (Nat.le_refl _) _).trans (hb1.mono (by simp)))⟩)
    · have hr' : 0 ≤ add ∧ add ≤ 65535 ∧ 0 ≤ at_ ∧ at_ ≤ (s.size : Int) - widthOf kind ∧ 0 ≤ base ∧ base ≤ 65279 := by omega
      obtain ⟨r1, r2, r3, r4, r5, r6⟩ := hr'
      have h1 : applyErr s.size kind at_ add sym base = valueErr kind sym add (base + at_) := by unfold applyErr; rw [if_neg h0, if_neg hr]
      by_cases hv : valueErr kind sym add (base + at_) = 0
      · have h2 : applyStr s kind at_ add sym base = putStr s at_.toNat (widthOf kind).toNat (valueNum kind sym add (base + at_)) := by unfold applyStr; rw [h1, if_pos hv]
        rw [h1, h2, hv]
        have hcw : checkWord s.size at_ (widthOf kind) = 0 := checkWord_of (by omega) (by omega) (by omega) (by omega)
        have cv := Lib.hid (fun W => (Value_any kind sym add (base + at_) W).mono (fun _ _ h => (⟨h.1.trans (ret_ints rfl hv), h.2⟩ : _ = Ending.returned (.tuple #[.int .i64 (valueNum kind sym add (base + at_)), .int .i64 0]) ∧ _)))
        have cp := Lib.hid (fun W => Put_okI s at_ (widthOf kind) (valueNum kind sym add (base + at_)) W hs hcw)
        clear h1 h2 hr hv hcw
        go_enter Tryz.func223, Tryz.ntmps223
        go_wp2_with (first | (go_at_call 235; (with_reducible refine (MWidth_any _ _).mono ?_); rintro e w1 ⟨rfl, hb1⟩; obtain ⟨hc1, hf1⟩ := bcell hb1; have hz1 : w.heap.size < w1.heap.size := by have := hb1.size; (try simp at this); omega) | (go_at_call 254; (with_reducible refine (cv.out _).mono ?_); rintro e w2 ⟨rfl, hb2⟩; obtain ⟨hc2, hf2⟩ := bcell hb2; have hz2 : w.heap.size < w2.heap.size := by have := hb2.size; (try simp at this); omega) | (go_at_call 255; (with_reducible refine (cp.out _).mono ?_); rintro e w3 ⟨rfl, hb3⟩; obtain ⟨hc3, hf3⟩ := bcell hb3; have hz3 : w.heap.size < w3.heap.size := by have := hb3.size; (try simp at this); omega))
        all_goals (go_ret2; exact ⟨by simp, (((Below.refl _ _).alloc (Nat.le_refl _) _).trans ((below_step hb1 (below_step hb2 hb3)).mono (by simp)))⟩)
      · have h2 : applyStr s kind at_ add sym base = ⟨#[]⟩ := by unfold applyStr; rw [h1, if_neg hv]
        rw [h1, h2]
        have hv' : (valueErr kind sym add (base + at_) != 0) = true := by simp [hv]
        have cv := Lib.hid (fun W => Value_any kind sym add (base + at_) W)
        clear h1 h2 hr hv
        go_enter Tryz.func223, Tryz.ntmps223
        go_wp2_with (first | (go_at_call 235; (with_reducible refine (MWidth_any _ _).mono ?_); rintro e w1 ⟨rfl, hb1⟩; obtain ⟨hc1, hf1⟩ := bcell hb1; have hz1 : w.heap.size < w1.heap.size := by have := hb1.size; (try simp at this); omega) | (go_at_call 254; (with_reducible refine (cv.out _).mono ?_); rintro e w2 ⟨rfl, hb2⟩; obtain ⟨hc2, hf2⟩ := bcell hb2; have hz2 : w.heap.size < w2.heap.size := by have := hb2.size; (try simp at this); omega))
        all_goals (go_ret2; exact ⟨by simp, (((Below.refl _ _).alloc (Nat.le_refl _) _).trans ((below_step hb1 hb2).mono (by simp)))⟩)

set_option maxHeartbeats 1000000 in
theorem ApplyOf_any (s : ByteArray) (kind at_ y add sym base : Int) (w : World) (hs : s.size ≤ 140737488351232) :
    Calls Tryz.prog 231 #[.string s, .agg #[.int .i64 kind, .int .i64 at_, .int .i64 y, .int .i64 add], .int .i64 sym, .int .i64 base] w fun e w' =>
      e = .returned (.tuple #[.string (applyStr s kind at_ add sym base), .int .i64 (applyErr s.size kind at_ add sym base)]) ∧ Below w.heap.size w w' := by
  have hbw : Below w.heap.size w (w.alloc (.cells #[.int .i64 kind, .int .i64 at_, .int .i64 y, .int .i64 add] 180)) := (Below.refl _ _).alloc (Nat.le_refl _) _
  have HB := Lib.hid hbw
  clear hbw
  by_cases h0 : widthOf kind = 0
  · have h1 : applyErr s.size kind at_ add sym base = 7 := by unfold applyErr; rw [if_pos h0]
    have h2 : applyStr s kind at_ add sym base = ⟨#[]⟩ := by unfold applyStr; rw [h1, if_neg (by omega)]
    rw [h1, h2]
    clear h1 h2
    go_enter Tryz.func231, Tryz.ntmps231
    go_wp2_with (first | (go_at_call 179; (with_reducible refine (WidthOf_any _ _).mono ?_); rintro e w' ⟨rfl, rfl⟩))
    all_goals (go_ret2; exact ⟨by simp, HB.out⟩)
  · obtain ⟨g1, g2⟩ := width_rng kind h0
    have h0' : (widthOf kind == 0) = false := by simp [h0]
    by_cases hr : add < 0 ∨ 65535 < add ∨ at_ < 0 ∨ (s.size : Int) - widthOf kind < at_ ∨ base < 0 ∨ 65279 < base
    · have h1 : applyErr s.size kind at_ add sym base = 3 := by unfold applyErr; rw [if_neg h0, if_pos hr]
      have h2 : applyStr s kind at_ add sym base = ⟨#[]⟩ := by unfold applyStr; rw [h1, if_neg (by omega)]
      rw [h1, h2]
      have hc : (add < 0 ∨ 65535 < add) ∨ (0 ≤ add ∧ add ≤ 65535 ∧ (at_ < 0 ∨ (s.size : Int) - widthOf kind < at_)) ∨ (0 ≤ add ∧ add ≤ 65535 ∧ 0 ≤ at_ ∧ at_ ≤ (s.size : Int) - widthOf kind ∧ (base < 0 ∨ 65279 < base)) := by omega
      clear h1 h2 hr
      rcases hc with (hc | hc) | ⟨k1, k2, hc | hc⟩ | ⟨k1, k2, k3, k4, hc | hc⟩
      all_goals
        go_enter Tryz.func231, Tryz.ntmps231
        go_wp2_with (first | (go_at_call 179; (with_reducible refine (WidthOf_any _ _).mono ?_); rintro e w' ⟨rfl, rfl⟩) | (go_at_call 75; (with_reducible refine (between_t _ _ _ _ ?_ ?_).mono ?_); (focus (first | omega | assumption)); (focus (first | omega | assumption)); rintro e w' ⟨rfl, rfl⟩) | (go_at_call 75; (with_reducible refine (between_f _ _ _ _ ?_).mono ?_); (focus (first | omega | assumption)); rintro e w' ⟨rfl, rfl⟩) | (go_at_call 75; (with_reducible refine (between_any _ _ _ _).mono ?_); rintro e w' ⟨rfl, rfl⟩))
        go_ret2
        exact ⟨by simp, HB.out⟩
    · have hr' : 0 ≤ add ∧ add ≤ 65535 ∧ 0 ≤ at_ ∧ at_ ≤ (s.size : Int) - widthOf kind ∧ 0 ≤ base ∧ base ≤ 65279 := by omega
      obtain ⟨r1, r2, r3, r4, r5, r6⟩ := hr'
      have h1 : applyErr s.size kind at_ add sym base = valueErr kind sym add (base + at_) := by unfold applyErr; rw [if_neg h0, if_neg hr]
      by_cases hv : valueErr kind sym add (base + at_) = 0
      · have h2 : applyStr s kind at_ add sym base = putStr s at_.toNat (widthOf kind).toNat (valueNum kind sym add (base + at_)) := by unfold applyStr; rw [h1, if_pos hv]
        rw [h1, h2, hv]
        obtain ⟨v, hvn⟩ : ∃ v, v = valueNum kind sym add (base + at_) := ⟨_, rfl⟩
        rw [← hvn]
        have cv := Lib.hid (fun W => (ValueOf_any kind sym add (base + at_) W).mono (fun _ _ h => (⟨h.1.trans (ret_ints hvn.symm hv), h.2⟩ : _ = Ending.returned (.tuple #[.int .i64 v, .int .i64 0]) ∧ _)))
        clear h1 h2 hr hv hvn
        go_enter Tryz.func231, Tryz.ntmps231
        go_wp2_with (first | (go_at_call 179; (with_reducible refine (WidthOf_any _ _).mono ?_); rintro e w' ⟨rfl, rfl⟩) | (go_at_call 75; (with_reducible refine (between_t _ _ _ _ ?_ ?_).mono ?_); (focus (first | omega | assumption)); (focus (first | omega | assumption)); rintro e w' ⟨rfl, rfl⟩) | (go_at_call 75; (with_reducible refine (between_f _ _ _ _ ?_).mono ?_); (focus (first | omega | assumption)); rintro e w' ⟨rfl, rfl⟩) | (go_at_call 75; (with_reducible refine (between_any _ _ _ _).mono ?_); rintro e w' ⟨rfl, rfl⟩) | (go_at_call 259; (with_reducible refine (cv.out _).mono ?_); rintro e w2 ⟨rfl, hb2⟩; obtain ⟨hc2, hf2⟩ := bcell hb2; have hz2 : w.heap.size < w2.heap.size := by have := hb2.size; (try simp at this); omega))
        obtain ⟨a, ha⟩ := Int.eq_ofNat_of_zero_le r3
        obtain ⟨k, hk⟩ := Int.eq_ofNat_of_zero_le (show 0 ≤ widthOf kind by omega)
        subst ha
        have hk4 : k ≤ 4 := by omega
        have HK := Lib.hid (show (widthOf kind).toNat = k by omega)
        have r7 : (a : Int) ≤ s.size := by omega
        rw [hk] at r4 ⊢
        clear hk
        obtain ⟨f1, f2, f3, f4, f5, f6⟩ := splice_facts (P := Tryz.prog) s ⟨(digits v k).toArray⟩ a k hs (by simp [ByteArray.size, digits_length]; omega) (by omega)
        have EQ := Lib.hid ((splice_eq s a k (digits v k)).trans (rfl : _ = putStr s a k v))
        have hc2' : w2.cell? ⟨w.heap.size, 1, none⟩ = some (.int .i64 a) := by rw [hc2 _ _ (by simp)]; exact (cell_of_row _ _ _ _ _ _ (heap_alloc_new w _)).trans rfl
        have hz2' : w.heap.size < w2.heap.size := by omega
        go_region_held3 (fun w' => Below w2.heap.size w2 w' ∧ w'.cell? ⟨w.heap.size, 1, none⟩ = some (.int .i64 a)) (first | exact ⟨Below.refl _ _, hc2'⟩ | exact held_drew ⟨Below.refl _ _, hc2'⟩ | exact held_cell hz2' (by assumption) (by assumption) | exact held_drew (by assumption) | assumption)
          (first | (go_at_call 143; refine (BytesOf_any _ _ _ (by omega)).mono ?_; rintro e w3 ⟨rfl, hb3⟩))
        rw [EQ.out]
        go_wp2_with fail
        go_ret2
        exact ⟨by simp [HK.out], (HB.out.trans ((below_step hb2 (And.left (by assumption))).mono (by simp)))⟩
      · have h2 : applyStr s kind at_ add sym base = ⟨#[]⟩ := by unfold applyStr; rw [h1, if_neg hv]
        rw [h1, h2]
        have hv' : (valueErr kind sym add (base + at_) != 0) = true := by simp [hv]
        have cv := Lib.hid (fun W => ValueOf_any kind sym add (base + at_) W)
        clear h1 h2 hr hv
        go_enter Tryz.func231, Tryz.ntmps231
        go_wp2_with (first | (go_at_call 179; (with_reducible refine (WidthOf_any _ _).mono ?_); rintro e w' ⟨rfl, rfl⟩) | (go_at_call 75; (with_reducible refine (between_t _ _ _ _ ?_ ?_).mono ?_); (focus (first | omega | assumption)); (focus (first | omega | assumption)); rintro e w' ⟨rfl, rfl⟩) | (go_at_call 75; (with_reducible refine (between_f _ _ _ _ ?_).mono ?_); (focus (first | omega | assumption)); rintro e w' ⟨rfl, rfl⟩) | (go_at_call 75; (with_reducible refine (between_any _ _ _ _).mono ?_); rintro e w' ⟨rfl, rfl⟩) | (go_at_call 259; (with_reducible refine (cv.out _).mono ?_); rintro e w2 ⟨rfl, hb2⟩; obtain ⟨hc2, hf2⟩ := bcell hb2; have hz2 : w.heap.size < w2.heap.size := by have := hb2.size; (try simp at this); omega))
        all_goals (go_ret2; exact ⟨by simp, HB.out.trans (hb2.mono (by simp))⟩)

end Go.Proofs.YtjiedaialianmaaGreat
end

section

open Go
namespace Go.Proofs.YtjiedaialianmaaGreat
open Gs (Tx)

/-- what is wrong with a kernel and modules, but for what is not there -/
def linkErr (k : Krn) (l : List Plc) : Int := if krnErr k ≠ 0 then krnErr k else if regErr l ≠ 0 then regErr l else if isTwice l = true then 6 else 0
theorem linkErr_ok {k : Krn} {l : List Plc} (h : linkErr k l = 0) : krnErr k = 0 ∧ regErr l = 0 ∧ isTwice l = false ∧ placedErr k l = 0 := by
  unfold linkErr at h
  split at h
  · contradiction
  · rename_i h1
    split at h
    · contradiction
    · rename_i h2
      split at h
      · cases h
      · rename_i h3
        have h2' : regErr l = 0 := by omega
        refine ⟨by omega, h2', by simpa using h3, ?_⟩
        obtain ⟨h8, hall, _⟩ := reg_row h2'
        unfold placedErr
        rw [if_neg (by omega)]
        unfold modsAll
        rw [if_neg (by omega)]
        refine modsErr_zero (fun x hx => ?_)
        obtain ⟨e1, e2⟩ := hall x hx
        have := many_ok e1
        simp only [regQ, Bool.and_eq_true, decide_eq_true_eq] at e2
        exact ⟨e1, by simp only [resQ, Bool.and_eq_true, decide_eq_true_eq]; omega⟩

def baseOf (x : Plc) : Int := 4096 + 64 * x.first
def symOf (at_ : List Int) (base : Int) (p : Pat) : Int := if p.sym < 0 then base else at_.getD p.sym.toNat 0
/-- bytes, patched one by one; or what is wrong -/
def patchAll (at_ : List Int) (base : Int) : List Pat → ByteArray → ByteArray × Int
  | [], s => (s, 0)
  | p :: r, s => if applyErr s.size p.kind p.at_ p.add (symOf at_ base p) base ≠ 0 then (⟨#[]⟩, applyErr s.size p.kind p.at_ p.add (symOf at_ base p) base)
    else patchAll at_ base r (applyStr s p.kind p.at_ p.add (symOf at_ base p) base)
def pad (n : Nat) (s : Tx) : Tx := s ++ List.replicate (n - s.length) 255
def imgOf (k : Krn) (l : List Plc) (x : Plc) : Tx × Int :=
  if (addrsOf k l x.m.im).2 ≠ 0 then ([], (addrsOf k l x.m.im).2)
  else if (patchAll (addrsOf k l x.m.im).1 (baseOf x) x.m.pa x.m.text).2 ≠ 0 then ([], (patchAll (addrsOf k l x.m.im).1 (baseOf x) x.m.pa x.m.text).2)
  else (pad (64 * (manyOf x.m).toNat) (tx (patchAll (addrsOf k l x.m.im).1 (baseOf x) x.m.pa x.m.text).1), 0)
def areaGo (k : Krn) (l : List Plc) : List Plc → Int → Tx × Int
  | [], at_ => (List.replicate (64 * (16 - at_)).toNat 255, 0)
  | x :: r, at_ => if (imgOf k l x).2 ≠ 0 then ([], (imgOf k l x).2) else
    if (areaGo k l r (endOf x)).2 ≠ 0 then ([], (areaGo k l r (endOf x)).2) else (List.replicate (64 * (x.first - at_)).toNat 255 ++ (imgOf k l x).1 ++ (areaGo k l r (endOf x)).1, 0)
def areaErr (k : Krn) (l : List Plc) : Int := if linkErr k l ≠ 0 then linkErr k l else (areaGo k l l 0).2
def areaT (k : Krn) (l : List Plc) : Tx := if linkErr k l ≠ 0 then [] else (areaGo k l l 0).1

theorem applyStr_size {s : ByteArray} {kind at_ add sym base : Int} (h : applyErr s.size kind at_ add sym base = 0) : (applyStr s kind at_ add sym base).size = s.size := by
  unfold applyStr
  rw [if_pos h]
  have hw : widthOf kind ≠ 0 := by intro e; unfold applyErr at h; rw [if_pos e] at h; omega
  have h2 : ¬ (add < 0 ∨ 65535 < add ∨ at_ < 0 ∨ s.size - widthOf kind < at_ ∨ base < 0 ∨ 65279 < base) := by
    intro e; unfold applyErr at h; rw [if_neg hw, if_pos e] at h; omega
  have hr := width_rng kind hw
  exact putStr_size s _ _ _ (by omega)
theorem patchAll_size {at_ : List Int} {base : Int} : ∀ {r : List Pat} {s : ByteArray}, (patchAll at_ base r s).2 = 0 → (patchAll at_ base r s).1.size = s.size
  | [], s, _ => rfl
  | p :: r, s, h => by
    unfold patchAll at h ⊢
    by_cases e : applyErr s.size p.kind p.at_ p.add (symOf at_ base p) base = 0
    · rw [if_neg (by omega)] at h ⊢
      rw [patchAll_size h, applyStr_size e]
    · rw [if_pos e] at h; exact absurd h e
theorem pad_length {n : Nat} {s : Tx} (h : s.length ≤ n) : (pad n s).length = n := by
  unfold pad; rw [List.length_append, List.length_replicate]; omega
theorem many_text (m : Mod) : (m.text.size : Int) ≤ 64 * manyOf m ∧ 64 * manyOf m < m.text.size + 64 ∧ 0 ≤ manyOf m := by
  unfold manyOf; omega
theorem imgOf_length {k : Krn} {l : List Plc} {x : Plc} (h : (imgOf k l x).2 = 0) : ((imgOf k l x).1.length : Int) = 64 * manyOf x.m := by
  obtain ⟨h1, h2, h3⟩ := many_text x.m
  unfold imgOf at h ⊢
  split at h
  · contradiction
  · rename_i e1
    split at h
    · contradiction
    · rename_i e2
      rw [if_neg e1, if_neg e2]
      have := patchAll_size (show (patchAll (addrsOf k l x.m.im).1 (baseOf x) x.m.pa x.m.text).2 = 0 by omega)
      show ((pad _ _).length : Int) = _
      rw [pad_length]
      · omega
      · show (patchAll (addrsOf k l x.m.im).1 (baseOf x) x.m.pa x.m.text).1.size ≤ _
        omega

end Go.Proofs.YtjiedaialianmaaGreat
end

section

open Go
namespace Go.Proofs.YtjiedaialianmaaGreat
open Gs (Tx)

abbrev StepU (l : List Plc) : Tx → Tx → Prop := Relation.TransGen (Gr.Step (txs l) (fun a b => dirT l b a))
theorem trans_mem {all : List Tx} {r : Tx → Tx → Bool} {a b : Tx} (h : Relation.TransGen (Gr.Step all r) a b) : b ∈ all := by
  cases h with
  | single s => exact s.1
  | tail _ s => exact s.1
theorem reach_mem {l : List Plc} {r : Tx → Tx → Bool} {a t : Tx} : t ∈ reachT l r a ↔ Relation.TransGen (Gr.Step (txs l) r) a t := by
  unfold reachT
  rw [List.mem_filter, Gs.msort_mem, decide_eq_true_eq, Gr.visit_iff (by rw [(Gs.msort_perm _).length_eq, txs_length]; exact Nat.le_refl _), Gs.step_perm (fun x => Gs.msort_mem (txs l) x)]
  exact ⟨fun h => h.2, fun h => ⟨trans_mem h, h⟩⟩
theorem users_mem {l : List Plc} {a : ByteArray} (h : ofErr l a = 0) {t : Tx} : t ∈ usersT l a ↔ StepU l (tx a) t := by
  unfold usersT; rw [if_neg (by omega)]; exact reach_mem
theorem of_zero {l : List Plc} (hg : grErr l = 0) {a : ByteArray} (h : tx a ∈ txs l) : ofErr l a = 0 := by
  unfold ofErr
  rw [if_neg (by omega), if_neg ?_]
  rcases idxOf_cases (named a) l with ⟨_, hno⟩ | ⟨j, _, e, _⟩
  · obtain ⟨x, hx, e⟩ := List.mem_map.1 h
    have := hno x hx
    simp [named, tx_inj e] at this
  · rw [e]; omega


theorem modsErr_zeroG {q : Plc → Bool} : ∀ {l : List Plc}, (∀ x ∈ l, modErr x.m = 0 ∧ q x = true) → modsErr q l = 0
  | [], _ => rfl
  | x :: l, h => by
    unfold modsErr
    have h1 := h x (by simp)
    rw [if_neg (by omega), if_neg (by simp [h1.2])]
    exact modsErr_zeroG (fun y hy => h y (List.mem_cons_of_mem _ hy))
theorem grErr_zero {l : List Plc} (h8 : l.length ≤ 8) (h : ∀ x ∈ l, modErr x.m = 0) (hn : (txs l).Nodup) : grErr l = 0 := by
  have e1 : modsAll anyQ l = 0 := by unfold modsAll; rw [if_neg (by omega)]; exact modsErr_zeroG (fun x hx => ⟨h x hx, rfl⟩)
  have e2 : ¬ isTwice l = true := fun e => by rw [twice_nodup] at e; exact e hn
  unfold grErr; rw [e1, if_neg e2]; rfl
theorem nobody {l : List Plc} {n : Nat} (hg : grErr l = 0) (h : n < l.length) (hu : usersT l l[n].m.name = []) : ∀ a, a ∈ txs l → dirT l a (tx l[n].m.name) = false := fun a ha => by
  cases e : dirT l a (tx l[n].m.name)
  · rfl
  · have hz : ofErr l l[n].m.name = 0 := of_zero hg (by rw [← txs_at h]; exact List.getElem_mem _)
    have : a ∈ usersT l l[n].m.name := (users_mem hz).2 (.single ⟨ha, e⟩)
    rw [hu] at this; cases this
end Go.Proofs.YtjiedaialianmaaGreat
end

section

open Go
namespace Go.Proofs.YtjiedaialianmaaGreat
open Gs (Tx)

/-- what is wrong with a registry -/
def rgErr (k : Krn) (l : List Plc) : Int := if linkErr k l ≠ 0 then linkErr k l else if isRound l = true then 4 else (areaGo k l l 0).2
theorem rgErr_ok {k : Krn} {l : List Plc} (h : rgErr k l = 0) : linkErr k l = 0 ∧ isRound l = false ∧ (areaGo k l l 0).2 = 0 := by
  unfold rgErr at h
  by_cases h1 : linkErr k l = 0
  · rw [if_neg (by omega)] at h
    cases h2 : isRound l
    · rw [h2, if_neg (by simp)] at h; exact ⟨h1, rfl, h⟩
    · rw [h2, if_pos rfl] at h; omega
  · rw [if_pos h1] at h; exact absurd h h1
theorem link_gr {k : Krn} {l : List Plc} (h : linkErr k l = 0) : grErr l = 0 := by
  have h1 := linkErr_ok h
  exact grErr_zero (reg_row h1.2.1).1 (fun x hx => ((reg_row h1.2.1).2.1 x hx).1) (not_twice h1.2.2.1)
theorem link_sorted {k : Krn} {l : List Plc} (h : linkErr k l = 0) : (sortedT l).isSome = !isRound l := by
  rw [sorted_doc (link_gr h)]
  cases isRound l <;> simp


def Mod.bare (m : Mod) : Mod := { m with eA := none, eC := 0, iA := none, iC := 0, pA := none, pC := 0 }
def Plc.bare (x : Plc) : Plc := ⟨x.m.bare, x.first⟩
def Krn.bare (k : Krn) : Krn := { k with eA := none, eC := 0 }
abbrev bares (l : List Plc) : List Plc := l.map Plc.bare
section
variable (m : Mod) (x : Plc) (k : Krn) (l : List Plc)
theorem krnErr_bare : krnErr k.bare = krnErr k := rfl
theorem txs_bare : txs (bares l) = txs l := by unfold txs bares; rw [List.map_map]; rfl
theorem bares_length : (bares l).length = l.length := by simp [bares]
theorem modsErr_bare {q : Plc → Bool} (hq : ∀ x, q (Plc.bare x) = q x) : ∀ l, modsErr q (bares l) = modsErr q l
  | [] => rfl
  | x :: l => by
    show modsErr q (x.bare :: bares l) = _
    unfold modsErr
    rw [hq x, modsErr_bare hq l]; rfl
theorem modsAll_bare {q : Plc → Bool} (hq : ∀ x, q (Plc.bare x) = q x) : modsAll q (bares l) = modsAll q l := by
  unfold modsAll; rw [bares_length, modsErr_bare hq]
theorem adjErr_bare : ∀ l, adjErr (bares l) = adjErr l
  | [] => rfl
  | [_] => rfl
  | x :: y :: l => by
    show (if y.bare.first < endOf x.bare then 4 else adjErr (bares (y :: l))) = _
    rw [adjErr_bare (y :: l)]; rfl
theorem regErr_bare : regErr (bares l) = regErr l := by
  unfold regErr; rw [modsAll_bare l (fun _ => rfl), adjErr_bare]
theorem isTwice_bare : isTwice (bares l) = isTwice l := by
  unfold isTwice; rw [txs_bare, bares_length]
theorem linkErr_bare : linkErr k.bare (bares l) = linkErr k l := by
  unfold linkErr; rw [krnErr_bare, regErr_bare, isTwice_bare]
theorem dirN_bare : dirN (bares l) = dirN l := by
  funext i j
  unfold dirN
  rw [txs_bare, List.getElem?_map]
  cases l[i]? <;> rfl
theorem isRound_bare : isRound (bares l) = isRound l := by
  unfold isRound tabOf; rw [dirN_bare, bares_length]
theorem find_bare (nm : ByteArray) : ∀ l, (bares l).find? (named nm) = (l.find? (named nm)).map Plc.bare
  | [] => rfl
  | x :: l => by
    show (x.bare :: bares l).find? (named nm) = _
    rw [List.find?_cons, List.find?_cons, find_bare nm l]
    have : named nm x.bare = named nm x := rfl
    rw [this]
    cases named nm x <;> rfl
theorem addrOf_bare (i : Imp) : addrOf k.bare (bares l) i = addrOf k l i := by
  unfold addrOf
  rw [find_bare]
  cases l.find? (named i.mod) <;> rfl
theorem addrsOf_bare : ∀ r, addrsOf k.bare (bares l) r = addrsOf k l r
  | [] => rfl
  | i :: r => by unfold addrsOf; rw [addrOf_bare, addrsOf_bare r]
theorem imgOf_bare : imgOf k.bare (bares l) x.bare = imgOf k l x := by
  unfold imgOf
  have h : addrsOf k.bare (bares l) x.bare.m.im = addrsOf k l x.m.im := addrsOf_bare k l x.m.im
  rw [h]; rfl
theorem areaGo_bare : ∀ r a, areaGo k.bare (bares l) (bares r) a = areaGo k l r a
  | [], _ => rfl
  | x :: r, a => by
    show areaGo k.bare (bares l) (x.bare :: bares r) a = _
    unfold areaGo
    have h : endOf x.bare = endOf x := rfl
    rw [imgOf_bare, h, areaGo_bare r]; rfl
theorem rgErr_bare : rgErr k.bare (bares l) = rgErr k l := by
  unfold rgErr; rw [linkErr_bare, isRound_bare, areaGo_bare]
end
theorem rgErr_like {k k' : Krn} {l l' : List Plc} (hk : k.bare = k'.bare) (hl : bares l = bares l') : rgErr k l = rgErr k' l' := by
  rw [← rgErr_bare k l, hk, hl, rgErr_bare]

end Go.Proofs.YtjiedaialianmaaGreat
end
