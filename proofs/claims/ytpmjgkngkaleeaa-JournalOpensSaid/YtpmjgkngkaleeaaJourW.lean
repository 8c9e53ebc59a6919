import Derived.Test.YtpmjgkngkaleeaaJourDeed
import Derived.Test.YtpmjgkngkaleeaaFlBegun
import Derived.Test.YtpmjgkngkaleeaaAppAny
/- Flashes of ours: used, blank, an entry, what it tells (chapter L). -/
namespace Go.Proofs.Ytpmjgkngkaleeaa
open Go.RowKit

set_option maxHeartbeats 2000000 in
set_option maxRecDepth 100000 in
theorem used_any (s : ByteArray) (w : World) (hs : s.size ≤ big) : Calls Try.prog 56 #[.string s] w fun e w' => e = .returned (.int .i64 (usedN (bytesOf s) : Nat)) ∧ w' = w := by
  unfold big at hs
  obtain ⟨U, hU⟩ : ∃ U, U = usedN (bytesOf s) := ⟨_, rfl⟩
  rw [← hU]
  have hU2 : U = usedTo (bytesOf s) s.size := by rw [hU, usedN, bytes_length]
  have HU := Lib.hid hU2
  clear hU hU2
  go_enter Try.func56, Try.ntmps56
  go_wp2_with fail
  go_loop [3] (fun n => ∃ k : Nat, k ≤ s.size ∧ n = .int .i64 k ∧ usedTo (bytesOf s) k = U) (fun n => (intOf n).toNat)
  case atStart => exact ⟨s.size, Nat.le_refl _, rfl, HU.out.symm⟩
  case round =>
    obtain ⟨k, hk, rfl, hN⟩ := hrel
    cases k with
    | zero =>
      have HN := Lib.hid hN
      clear hN
      go_wp2_with fail
      go_ret
      exact ⟨ret_int (by rw [← HN.out]; rfl), rfl⟩
    | succ m =>
      have hm : m < s.size := by omega
      have ix := run_index_byte s m hm
      have hx8 : ((bytesOf s).getD m 0).toNat < 256 := u8_lt_ _
      obtain ⟨c, hc⟩ : ∃ c, c = (bytesOf s).getD m 0 := ⟨_, rfl⟩
      rw [← hc] at ix hx8
      unfold usedTo at hN
      rw [← hc] at hN
      obtain ⟨x, hx⟩ : ∃ x, x = c.toNat := ⟨_, rfl⟩
      rw [← hx] at ix hx8
      have h1 : (0 : Int) < ((m + 1 : Nat) : Int) := by omega
      by_cases t : c = 255
      · rw [if_pos t] at hN
        have hx2 : x = 255 := by rw [hx, t]; rfl
        subst hx2
        have HN := Lib.hid hN
        clear hN hx hc t
        go_wp2_with fail
        go_round
        case rel => exact ⟨m, by omega, by go_num, HN.out⟩
        case measure => (simp [intOf]; try omega)
      · rw [if_neg t] at hN
        have hx2 : ((x : Int) == 255) = false := by
          have : x ≠ 255 := fun e => t (by rw [← UInt8.toNat_inj, ← hx, e]; rfl)
          simp; omega
        have HN := Lib.hid hN
        clear hN hx hc t
        go_wp2_with fail
        go_ret
        exact ⟨ret_int (by rw [← HN.out]; first | rfl | omega), rfl⟩

set_option maxHeartbeats 2000000 in
set_option maxRecDepth 100000 in
theorem jblank_any (s : ByteArray) (b : Bool) (w : World) (hs : s.size ≤ big) (hb : b = (((usedN (bytesOf s) : Nat) : Int) == 0)) : Calls Try.prog 53 #[.string s] w fun e w' => e = .returned (.bool b) ∧ w' = w := by
  have cU := Lib.hid (fun W => used_any s W hs)
  obtain ⟨U, hU⟩ : ∃ U, U = usedN (bytesOf s) := ⟨_, rfl⟩
  rw [← hU] at cU hb
  have HB := Lib.hid hb
  clear hU hb
  go_enter Try.func53, Try.ntmps53
  go_wp2_with (go_at_call 56; refine (cU.out _).mono ?_; rintro e w' ⟨rfl, rfl⟩)
  go_ret
  exact ⟨ret_bool (by rw [HB.out]), rfl⟩

set_option maxHeartbeats 2000000 in
set_option maxRecDepth 100000 in
theorem entry_any (B : Nat) (S : ByteArray) (i : Nat) (w : World) (hc : w.cell? ⟨B, 0, none⟩ = some (.string S)) (hi : 5 * (i + 1) ≤ S.size) (hs : S.size ≤ 100000) :
    Calls Try.prog 54 #[.pointer (some ⟨B, 0, none⟩), .int .i64 i] w fun e w' => e = .returned (.string (ofBytes (entryOf (bytesOf S) i))) ∧ w' = w := by
  have HE := Lib.hid (show S.extract (S.size - 5 * (i + 1)) (S.size - 5 * (i + 1) + 5) = ofBytes (entryOf (bytesOf S) i) by
    unfold entryOf
    rw [bytes_length, ← extract_of, of_bytes])
  have hi2 : 5 * ((i : Int) + 1) ≤ S.size := by omega
  go_enter Try.func54, Try.ntmps54
  go_wp2_with fail
  go_ret
  exact ⟨by rw [← HE.out]; rfl, rfl⟩

/-- an append of one text, in a region that draws its order -/
theorem step_str (W : World) {ops : Array Oper} {o : Oper} {a : Act} {K : Act → World → Prop} {Q : Exit → Act → World → Prop} {E : Prop} (hgd : o.guard = none) (s x : Operand)
    (ho : o.op = .call { callee := .builtin .append, args := #[s, x], argTypes := #[22, 22] }) (base : Nat) (v : Value) (l0 : List ByteArray) (hs : a.eval s = v) (hown : TOwn W base v l0)
    (A : Option Addr) (c : Nat) (l1 : List ByteArray) (hx : a.eval x = .slice A l1.length c) (hr : Row strCells 1 W A l1) (hlen : l0.length + l1.length ≤ 1000000) (hbase : base ≤ W.heap.size)
    (h : ∀ v' w', TOwn w' base v' (l0 ++ l1) → Below base W w' → K (a.put o.dst v') w') : if Region.wanted o (yielded ops a.tmps) = true then Oper.wp Try.prog o a W K Q else E := by
  obtain ⟨i0, hi, hz0, hz1, hz2⟩ := info_parts Try.infoStr
  refine step_append_any W hgd s x 22 ho base 9 i0 (.string ⟨#[]⟩) 1 16 Try.underlying22 hi hz0 hz1 hz2 rfl (by decide) v l0.length (l0.map Value.string) hs hown W.heap.size A l1.length c (l1.flatMap strCells) hx hr
    (fun u hu => by rw [← map_str] at hu; obtain ⟨y, _, rfl⟩ := List.mem_map.1 hu; rfl) (by simp only [maxLen]; omega) (by omega) hbase ?_
  intro v' w' h1 h2 _
  refine h v' w' ?_ ((Below.refl base W).grown h2 hbase (own_base hown))
  unfold TOwn
  rw [List.length_append, List.map_append, map_str l1]; exact h1
/-- the state of a load, in block B; its records in a row of the call's own behind it -/
def JSt (w : World) (B : Nat) (S : ByteArray) (i : Nat) (R : List ByteArray) (e : Nat) : Prop :=
  ∃ (A : Option Addr) (c : Nat), w.heap[B]? = some (.cells #[.string S, .int .i64 i, .slice A R.length c, .int .i64 e] 75 (0, 0)) ∧ TOwn w (B + 1) (.slice A R.length c) R
theorem jst_more {w : World} {B : Nat} {S : ByteArray} {i : Nat} {R : List ByteArray} {e : Nat} {N : ByteArray} {A A' : Option Addr} {c c' : Nat} (hJ : w.heap[B]? = some (.cells #[.string S, .int .i64 i, .slice A R.length c, .int .i64 e] 75 (0, 0)))
    (hO : TOwn w (B + 1) (.slice A' (R ++ [N]).length c') (R ++ [N])) : JSt (w.setCell ⟨B, 2, none⟩ (.slice A' (R.length + 1) c')) B S i (R ++ [N]) e := by
  have hl : R.length + 1 = (R ++ [N]).length := by simp
  rw [hl]
  exact ⟨A', c', heap_setCell_same w B 2 _ _ (.slice A' (R ++ [N]).length c') hJ, hO.set_other hJ (by decide) 2 _⟩
theorem or_two (a b : Nat) (ha : a < 256) (hb : b < 256) : bits .or .i64 (a : Int) ((b : Int) * 256) = ((a + 256 * b : Nat) : Int) := by
  rw [show (b : Int) * 256 = ((b * 256 : Nat) : Int) by omega, i64_or_nat a (b * 256) (by omega) (by omega)]
  have := Nat.shiftLeft_add_eq_or_of_lt (b := a) (i := 8) (by omega) b
  simp only [Nat.shiftLeft_eq, Nat.reducePow] at this
  rw [Nat.or_comm]; omega

set_option maxHeartbeats 2000000 in
set_option maxRecDepth 100000 in
theorem read_skip (B : Nat) (E : ByteArray) (w : World) (hE : E.size = 5) (h4 : (bytesOf E).getD 4 0 ≠ 0) :
    Calls Try.prog 55 #[.pointer (some ⟨B, 0, none⟩), .string E] w fun e w' => e = .returned (.bool true) ∧ w' = w := by
  have i4 := run_index_byte E 4 (by omega)
  obtain ⟨x, hx⟩ : ∃ x, x = ((bytesOf E).getD 4 0).toNat := ⟨_, rfl⟩
  rw [← hx] at i4
  have hx0 : ((x : Int) != 0) = true := by
    have : x ≠ 0 := fun e => h4 (by rw [← UInt8.toNat_inj, ← hx, e]; rfl)
    simp; omega
  have i4' : ∀ W, (Instr.index 9 (.string E) (.int .i64 4)).run Try.prog W = .ok (.int .u8 (x : Int)) W := i4
  clear h4 hx i4
  go_enter Try.func55, Try.ntmps55
  go_wp2_with fail
  go_ret
  exact ⟨rfl, rfl⟩

set_option maxHeartbeats 4000000 in
set_option maxRecDepth 100000 in
theorem read_bad (B : Nat) (S E : ByteArray) (i : Nat) (A : Option Addr) (c : Nat) (R : List ByteArray) (e : Nat) (w : World) (hE : E.size = 5) (hS : S.size ≤ 100000) (hJ : w.heap[B]? = some (.cells #[.string S, .int .i64 i, .slice A R.length c, .int .i64 e] 75 (0, 0)))
    (h4 : (bytesOf E).getD 4 0 = 0) (hr : readOf (bytesOf S) (bytesOf E) R e = none) :
    Calls Try.prog 55 #[.pointer (some ⟨B, 0, none⟩), .string E] w fun en w' => en = .returned (.bool false) ∧ Below w.heap.size w w' := by
  have s0 := cell_of_heap hJ 0
  simp only [List.getElem?_toArray, List.getElem?_cons_zero] at s0
  unfold readOf at hr
  rw [if_neg (by rw [h4]; exact fun h => h rfl), bytes_length] at hr
  obtain ⟨a, hma⟩ : ∃ a, a = entAt (bytesOf E) := ⟨_, rfl⟩
  have ha := hma
  obtain ⟨m, hmm⟩ : ∃ m, m = entMany (bytesOf E) := ⟨_, rfl⟩
  have hm := hmm
  have HMA := Lib.hid hma
  have HMM := Lib.hid hmm
  clear hma hmm
  have i0' := run_index_byte E 0 (by omega)
  have i1' := run_index_byte E 1 (by omega)
  have i2' := run_index_byte E 2 (by omega)
  have i3' := run_index_byte E 3 (by omega)
  have i4' := run_index_byte E 4 (by omega)
  rw [h4] at i4'
  have i4 : ∀ W, (Instr.index 9 (.string E) (.int .i64 4)).run Try.prog W = .ok (.int .u8 0) W := i4'
  have a0 : ((bytesOf E).getD 0 0).toNat < 256 := u8_lt_ _
  have a1 : ((bytesOf E).getD 1 0).toNat < 256 := u8_lt_ _
  have a2 : ((bytesOf E).getD 2 0).toNat < 256 := u8_lt_ _
  have a3 : ((bytesOf E).getD 3 0).toNat < 256 := u8_lt_ _
  unfold entAt two at ha
  unfold entMany two at hm
  generalize ((bytesOf E).getD 0 0).toNat = x0 at *
  generalize ((bytesOf E).getD 1 0).toNat = x1 at *
  generalize ((bytesOf E).getD 2 0).toNat = x2 at *
  generalize ((bytesOf E).getD 3 0).toNat = x3 at *
  have i0 : ∀ W, (Instr.index 9 (.string E) (.int .i64 0)).run Try.prog W = .ok (.int .u8 (x0 : Int)) W := i0'
  have i1 : ∀ W, (Instr.index 9 (.string E) (.int .i64 1)).run Try.prog W = .ok (.int .u8 (x1 : Int)) W := i1'
  have i2 : ∀ W, (Instr.index 9 (.string E) (.int .i64 2)).run Try.prog W = .ok (.int .u8 (x2 : Int)) W := i2'
  have i3 : ∀ W, (Instr.index 9 (.string E) (.int .i64 3)).run Try.prog W = .ok (.int .u8 (x3 : Int)) W := i3'
  have o1 := or_two x0 x1 a0 a1
  have o2 := or_two x2 x3 a2 a3
  rw [← ha] at o1
  rw [← hm] at o2
  have v0 : IntKind.i64.wrap (x0 : Int) = x0 := IntWalk.i64_in _ (by omega)
  have v1 : IntKind.i64.wrap (x1 : Int) = x1 := IntWalk.i64_in _ (by omega)
  have v2 : IntKind.i64.wrap (x2 : Int) = x2 := IntWalk.i64_in _ (by omega)
  have v3 : IntKind.i64.wrap (x3 : Int) = x3 := IntWalk.i64_in _ (by omega)
  have v4 : IntKind.i64.wrap ((x1 : Int) * 256) = (x1 : Int) * 256 := IntWalk.i64_in _ (by omega)
  have v5 : IntKind.i64.wrap ((x3 : Int) * 256) = (x3 : Int) * 256 := IntWalk.i64_in _ (by omega)
  have ha6 : a < 65536 := by omega
  have hm6 : m < 65536 := by omega
  rw [← HMA.out, ← HMM.out] at hr
  have hbad : S.size < a + m ∨ m = 0 ∨ 800 < m := by
    by_cases h : S.size < a + m ∨ m = 0 ∨ 800 < m
    · exact h
    · rw [if_neg h] at hr; cases hr
  have HW := Lib.hid (show Below w.heap.size w w.drew from below_drewN (Below.refl _ _) 1)
  clear hr h4 hJ ha hm i0' i1' i2' i3' i4'
  go_enter Try.func55, Try.ntmps55
  go_upto_region 3 with fail
  go_cut [5, 6] from 10 to 25 (fun p q wx => p = .int .i64 (a : Int) ∧ q = .int .i64 (m : Int) ∧ wx.heap = w.heap ∧ Below w.heap.size w wx)
  case first =>
    go_quiet (fail)
    have HN := Lib.hid (show Below w.heap.size w (w.drewN nq) from below_drewN (Below.refl _ _) nq)
    go_wp2_with fail
    go_meet
    exact ⟨rfl, rfl, rfl, HN.out⟩
  case rest =>
    obtain ⟨rfl, rfl, hh, hb⟩ := hcut
    obtain ⟨w1, rfl⟩ : ∃ W : World, W = wc := ⟨_, rfl⟩
    have t0 : w1.cell? ⟨B, 0, none⟩ = some (.string S) := (World.cell?_of_block (a := ⟨B, 0, none⟩) (by rw [hh])).trans s0
    have HB := Lib.hid hb
    clear hb hh s0 i0 i1 i2 i3 i4 o1 o2 v0 v1 v2 v3 v4 v5 a0 a1 a2 a3
    by_cases b1 : S.size < a + m
    · have b1' : (S.size : Int) < (a : Int) + m := by omega
      have b1'' : decide ((S.size : Int) < (a : Int) + m) = true := decide_eq_true b1'
      go_wp2_with fail
      go_ret
      exact ⟨rfl, HB.out⟩
    · have b1' : ¬ ((S.size : Int) < (a : Int) + m) := by omega
      have b1'' : decide ((S.size : Int) < (a : Int) + m) = false := decide_eq_false b1'
      by_cases b2 : m = 0
      · subst b2
        go_wp2_with fail
        go_ret
        exact ⟨rfl, HB.out⟩
      · have b2' : ((m : Int) == 0) = false := by simp [b2]
        have b3 : 800 < m := by omega
        have b3' : (800 : Int) < m := by omega
        go_wp2_with fail
        go_ret
        exact ⟨rfl, HB.out⟩

set_option maxHeartbeats 4000000 in
set_option maxRecDepth 100000 in
theorem read_ok (B : Nat) (S E : ByteArray) (i : Nat) (R : List ByteArray) (e : Nat) (w : World) (hE : E.size = 5) (hS : S.size ≤ 100000) (hR : R.length ≤ 900000) (he : e ≤ 200000) (hJ : JSt w B S i R e)
    (h4 : (bytesOf E).getD 4 0 = 0) (p : List ByteArray × Nat) (hr : readOf (bytesOf S) (bytesOf E) R e = some p) :
    Calls Try.prog 55 #[.pointer (some ⟨B, 0, none⟩), .string E] w fun en w' => en = .returned (.bool true) ∧ Below B w w' ∧ JSt w' B S i p.1 p.2 := by
  obtain ⟨A, c, hJ, hO⟩ := hJ
  unfold readOf at hr
  rw [if_neg (by rw [h4]; exact fun h => h rfl), bytes_length] at hr
  obtain ⟨a, hma⟩ : ∃ a, a = entAt (bytesOf E) := ⟨_, rfl⟩
  have ha := hma
  obtain ⟨m, hmm⟩ : ∃ m, m = entMany (bytesOf E) := ⟨_, rfl⟩
  have hm := hmm
  have HMA := Lib.hid hma
  have HMM := Lib.hid hmm
  clear hma hmm
  have i0' := run_index_byte E 0 (by omega)
  have i1' := run_index_byte E 1 (by omega)
  have i2' := run_index_byte E 2 (by omega)
  have i3' := run_index_byte E 3 (by omega)
  have i4' := run_index_byte E 4 (by omega)
  rw [h4] at i4'
  have i4 : ∀ W, (Instr.index 9 (.string E) (.int .i64 4)).run Try.prog W = .ok (.int .u8 0) W := i4'
  have a0 : ((bytesOf E).getD 0 0).toNat < 256 := u8_lt_ _
  have a1 : ((bytesOf E).getD 1 0).toNat < 256 := u8_lt_ _
  have a2 : ((bytesOf E).getD 2 0).toNat < 256 := u8_lt_ _
  have a3 : ((bytesOf E).getD 3 0).toNat < 256 := u8_lt_ _
  unfold entAt two at ha
  unfold entMany two at hm
  generalize ((bytesOf E).getD 0 0).toNat = x0 at *
  generalize ((bytesOf E).getD 1 0).toNat = x1 at *
  generalize ((bytesOf E).getD 2 0).toNat = x2 at *
  generalize ((bytesOf E).getD 3 0).toNat = x3 at *
  have i0 : ∀ W, (Instr.index 9 (.string E) (.int .i64 0)).run Try.prog W = .ok (.int .u8 (x0 : Int)) W := i0'
  have i1 : ∀ W, (Instr.index 9 (.string E) (.int .i64 1)).run Try.prog W = .ok (.int .u8 (x1 : Int)) W := i1'
  have i2 : ∀ W, (Instr.index 9 (.string E) (.int .i64 2)).run Try.prog W = .ok (.int .u8 (x2 : Int)) W := i2'
  have i3 : ∀ W, (Instr.index 9 (.string E) (.int .i64 3)).run Try.prog W = .ok (.int .u8 (x3 : Int)) W := i3'
  have o1 := or_two x0 x1 a0 a1
  have o2 := or_two x2 x3 a2 a3
  rw [← ha] at o1
  rw [← hm] at o2
  have v0 : IntKind.i64.wrap (x0 : Int) = x0 := IntWalk.i64_in _ (by omega)
  have v1 : IntKind.i64.wrap (x1 : Int) = x1 := IntWalk.i64_in _ (by omega)
  have v2 : IntKind.i64.wrap (x2 : Int) = x2 := IntWalk.i64_in _ (by omega)
  have v3 : IntKind.i64.wrap (x3 : Int) = x3 := IntWalk.i64_in _ (by omega)
  have v4 : IntKind.i64.wrap ((x1 : Int) * 256) = (x1 : Int) * 256 := IntWalk.i64_in _ (by omega)
  have v5 : IntKind.i64.wrap ((x3 : Int) * 256) = (x3 : Int) * 256 := IntWalk.i64_in _ (by omega)
  have ha6 : a < 65536 := by omega
  have hm6 : m < 65536 := by omega
  rw [← HMA.out, ← HMM.out] at hr
  have hbad : ¬ (S.size < a + m ∨ m = 0 ∨ 800 < m) := fun h => by rw [if_pos h] at hr; cases hr
  rw [if_neg hbad] at hr
  injection hr with hr
  obtain ⟨N, hN⟩ : ∃ N, N = cutOf (bytesOf S) a m := ⟨_, rfl⟩
  rw [← hN] at hr
  have hx : S.extract a (a + m) = N := by rw [hN]; unfold cutOf; rw [← extract_of, of_bytes]
  have HP := Lib.hid hr.symm
  have HX := Lib.hid hx
  have HJ := Lib.hid hJ
  have HO := Lib.hid hO
  have hBl : B < w.heap.size := (Array.getElem?_eq_some_iff.1 hJ).1
  clear hr h4 hJ hO ha hm i0' i1' i2' i3' i4' hN hx
  go_enter Try.func55, Try.ntmps55
  go_upto_region 3 with fail
  go_cut [5, 6] from 10 to 25 (fun p q wx => p = .int .i64 (a : Int) ∧ q = .int .i64 (m : Int) ∧ wx.heap = w.heap ∧ Below w.heap.size w wx)
  case first =>
    go_quiet (fail)
    have HN := Lib.hid (show Below w.heap.size w (w.drewN nq) from below_drewN (Below.refl _ _) nq)
    go_wp2_with fail
    go_meet
    exact ⟨rfl, rfl, rfl, HN.out⟩
  case rest =>
    obtain ⟨rfl, rfl, hh, hb⟩ := hcut
    obtain ⟨w1, rfl⟩ : ∃ W : World, W = wc := ⟨_, rfl⟩
    have hz1 := hb.size
    have HJ1 := Lib.hid (show w1.heap[B]? = some (.cells #[.string S, .int .i64 i, .slice A R.length c, .int .i64 e] 75 (0, 0)) by rw [hh]; exact HJ.out)
    have HO1 := Lib.hid (show TOwn w1 (B + 1) (.slice A R.length c) R from HO.out.below hb (Nat.le_refl _))
    have s0 := cell_of_heap HJ1.out 0
    have s2 := cell_of_heap HJ1.out 2
    have s3 := cell_of_heap HJ1.out 3
    have f2 := free_of_heap HJ1.out 2
    simp only [List.getElem?_toArray, List.getElem?_cons_zero, List.getElem?_cons_succ] at s0 s2 s3
    have HB := Lib.hid (hb.mono (show B ≤ w.heap.size by omega))
    have hBl1 : B < w1.heap.size := by omega
    obtain ⟨b1, b2, b3⟩ : a + m ≤ S.size ∧ m ≠ 0 ∧ m ≤ 800 := by omega
    have b1' : ¬ ((S.size : Int) < (a : Int) + m) := by omega
    have b1'' : decide ((S.size : Int) < (a : Int) + m) = false := decide_eq_false b1'
    have b2' : ((m : Int) == 0) = false := by simp [b2]
    have b3' : ¬ ((800 : Int) < m) := by omega
    have b4 : (a : Int) + m ≤ S.size := by omega
    clear hb hh i0 i1 i2 i3 i4 o1 o2 v0 v1 v2 v3 v4 v5 a0 a1 a2 a3 hbad
    obtain ⟨q, hq⟩ : ∃ q, q = a + m := ⟨_, rfl⟩
    have hx := HX.out
    rw [← hq] at hx
    have HQ := Lib.hid hq
    have q1 : (q : Int) ≤ S.size := by omega
    have q2 : (a : Int) ≤ q := by omega
    have q3 : (0 : Int) ≤ q := by omega
    have q4 : IntKind.i64.wrap ((a : Int) + m) = (q : Int) := by rw [IntWalk.i64_in _ (by omega)]; omega
    clear hq
    have HOA := Lib.hid (show ∀ o : Obj, TOwn (w1.alloc o).drew (B + 1) (.slice A R.length c) R from fun o => World.ownsRow.alloc HO1.out o)
    have HRA := Lib.hid (show Row strCells 1 (w1.alloc (.cells #[.string N] 9)).drew (some ⟨w1.heap.size, 0, none⟩) [N] from row_block (enc := strCells) (k := 1) (fun _ => rfl) (heap_alloc_new w1 (.cells #[.string N] 9)) rfl)
    have HJA := Lib.hid (show ∀ o : Obj, (w1.alloc o).drew.heap[B]? = some (.cells #[.string S, .int .i64 i, .slice A R.length c, .int .i64 e] 75 (0, 0)) from fun o => (Below.heap_alloc w1 o B hBl1).trans HJ1.out)
    have HBA := Lib.hid (show ∀ o : Obj, Below B w1 (w1.alloc o).drew from fun o => ((Below.refl _ _).alloc (Nat.le_of_lt hBl1) o).drew)
    have HLR := Lib.hid (show R.length + [N].length ≤ 1000000 by simp only [List.length_singleton]; omega)
    have HBS := Lib.hid (show ∀ o : Obj, B + 1 ≤ (w1.alloc o).drew.heap.size from fun o => by have : w1.heap.size ≤ (w1.alloc o).heap.size := (by simp); show B + 1 ≤ (w1.alloc o).heap.size; omega)
    have Q4 := Lib.hid q4
    clear q4
    go_upto_region 6 with fail
    go_cut [5, 6] from 43 to 60 (fun p q wx => p = .int .i64 (a : Int) ∧ q = .int .i64 (m : Int) ∧ JSt wx B S i (R ++ [N]) e ∧ Below B w1 wx)
    case first =>
      have q4 := Q4.out
      go_region_law ((refine step_str _ (by rfl) (.tmp 47) (.tmp 57) (by rfl) (B + 1) (.slice A R.length c) R (by rfl) (HOA.out _) (some ⟨w1.heap.size, 0, none⟩) 1 [N] (by rfl) HRA.out HLR.out (HBS.out _) ?_; intro v' w2 ho2 hb2; obtain ⟨A', c', rfl, -, -⟩ := ho2.form; have hJ2 := (hb2.block B (Nat.lt_succ_self B)).trans (HJA.out _); have z2 := cell_of_heap hJ2 2; have zf := free_of_heap hJ2 2; simp only [List.getElem?_toArray, List.getElem?_cons_zero, List.getElem?_cons_succ] at z2; have HJ2 := Lib.hid hJ2; have HO2 := Lib.hid ho2; have HB2 := Lib.hid ((HBA.out _).trans (hb2.mono (Nat.le_succ B))); clear hJ2 ho2 hb2))
      all_goals (
        go_wp2_with fail
        go_meet
        exact ⟨rfl, rfl, jst_more HJ2.out HO2.out, HB2.out.setCell (p := ⟨B, 2, none⟩) (Nat.le_refl _) _⟩)
    case rest =>
      obtain ⟨rfl, rfl, ⟨A2, c2, hJ2, hO2⟩, hb2⟩ := hcut
      obtain ⟨w2, rfl⟩ : ∃ W : World, W = wc := ⟨_, rfl⟩
      have z3 := cell_of_heap hJ2 3
      have zf := free_of_heap hJ2 3
      simp only [List.getElem?_toArray, List.getElem?_cons_zero, List.getElem?_cons_succ] at z3
      have HJ2 := Lib.hid hJ2
      have HO2 := Lib.hid hO2
      have HB2 := Lib.hid (HB.out.trans hb2)
      have he2 : (e : Int) ≤ 200000 := by omega
      clear hJ2 hO2 hb2 s0 s2 s3 f2 hx HOA HRA HJA HBA
      have hmx : max (e : Int) ((a : Int) + m) = ((max e (a + m) : Nat) : Int) := by omega
      go_wp2_with fail
      go_ret
      refine ⟨rfl, ?_, ?_⟩
      · exact HB2.out.setCell (p := ⟨B, 3, none⟩) (Nat.le_refl _) _
      · rw [HP.out]
        exact ⟨A2, c2, heap_setCell_same w2 B 3 _ _ _ HJ2.out, HO2.out.set_other HJ2.out (by decide) 3 _⟩

end Go.Proofs.Ytpmjgkngkaleeaa
