import Derived.Test.YtpmjgkngkaleeaaJourLoadW
/- Deeds that put bytes (chapter L): the programmer's put. -/
namespace Go.Proofs.Ytpmjgkngkaleeaa
open Go.RowKit

abbrev zeroDed : Value := .agg #[.int .i64 0, .int .i64 0, .int .i64 0]
theorem Try.infoDed : (Try.prog.info? 32).map (fun i => (i.zero, i.size, i.bytes)) = some (some zeroDed, 3, 24) := by kernel_rfl
/-- a slice of deeds that lies in blocks of the call's own, from block base on -/
def DOwn (w : World) (base : Nat) (v : Value) (l : List Ded) : Prop := w.ownsRow base 32 3 v l.length (l.flatMap Ded.cells)
theorem ded_one (l : List Ded) : ∀ u ∈ l.flatMap Ded.cells, u.oneCell' = true := by
  intro u hu
  obtain ⟨x, _, hx⟩ := List.mem_flatMap.1 hu
  simp only [Ded.cells, List.mem_cons, List.not_mem_nil, or_false] at hx
  rcases hx with rfl | rfl | rfl <;> rfl
theorem DOwn.row {w : World} {base : Nat} {A : Option Addr} {n c : Nat} {l : List Ded} (h : DOwn w base (.slice A n c) l) : Row Ded.cells 3 w A l := by
  obtain ⟨A', c', e⟩ := own_slice h
  injection e with e1 e2 e3
  subst e1 e2 e3
  exact Reads.of_own h
theorem DOwn.below {w w' : World} {base B : Nat} {v : Value} {l : List Ded} (h : DOwn w base v l) (hb : Below B w w') (hB : w.heap.size ≤ B) : DOwn w' base v l := by
  refine ⟨h.1, ?_⟩
  rcases h.2 with h0 | ⟨g, cap, cur, e1, e2, e3, e4⟩
  · exact .inl h0
  · refine .inr ⟨g, cap, cur, e1, e2, ?_, e4⟩
    have : g < w.heap.size := (Array.getElem?_eq_some_iff.1 e3).1
    rw [hb.block g (by omega)]; exact e3
theorem DOwn.set_other {w : World} {base : Nat} {v : Value} {l : List Ded} {O : Nat} {cs : Array Value} {t : TypeId} {fr : Nat × Nat} (h : DOwn w base v l) (hO : w.heap[O]? = some (.cells cs t fr)) (ht : t ≠ 32) (o : Nat) (x : Value) : DOwn (w.setCell ⟨O, o, none⟩ x) base v l := by
  refine ownsRow_setCell_other (a := ⟨O, o, none⟩) h (fun hv => ?_) x
  rcases h.2 with ⟨rfl, _⟩ | ⟨g, cap, cur, rfl, _, e3, _⟩
  · cases hv
  · simp only [Value.ownBlock] at hv
    have : g = O := by simpa using hv
    subst this
    rw [e3] at hO
    injection hO with hO
    injection hO with _ h2 _
    exact ht h2.symm
/-- an append of deeds, in a region that draws its order -/
theorem step_deds (W : World) {ops : Array Oper} {o : Oper} {a : Act} {K : Act → World → Prop} {Q : Exit → Act → World → Prop} {E : Prop} (hgd : o.guard = none) (s x : Operand)
    (ho : o.op = .call { callee := .builtin .append, args := #[s, x], argTypes := #[25, 25] }) (base : Nat) (v : Value) (l0 : List Ded) (hs : a.eval s = v) (hown : DOwn W base v l0)
    (A : Option Addr) (c : Nat) (l1 : List Ded) (hx : a.eval x = .slice A l1.length c) (hr : Row Ded.cells 3 W A l1) (hlen : l0.length + l1.length ≤ 1000000) (hbase : base ≤ W.heap.size)
    (h : ∀ v' w', DOwn w' base v' (l0 ++ l1) → Below base W w' → K (a.put o.dst v') w') : if Region.wanted o (yielded ops a.tmps) = true then Oper.wp Try.prog o a W K Q else E := by
  obtain ⟨i0, hi, hz0, hz1, hz2⟩ := info_parts Try.infoDed
  refine step_append_any W hgd s x 25 ho base 32 i0 zeroDed 3 24 Try.underlying25 hi hz0 hz1 hz2 rfl (by decide) v l0.length (l0.flatMap Ded.cells) hs hown W.heap.size A l1.length c (l1.flatMap Ded.cells) hx hr
    (ded_one l1) (by simp only [maxLen]; omega) (by omega) hbase ?_
  intro v' w' h1 h2 _
  refine h v' w' ?_ ((Below.refl base W).grown h2 hbase (own_base hown))
  unfold DOwn
  rw [List.length_append, List.flatMap_append]; exact h1
/-- the programmer in block P; its deeds in a row of the call's own behind it -/
def PSt (w : World) (P : Nat) (D : List Ded) : Prop :=
  ∃ (A : Option Addr) (c : Nat), w.heap[P]? = some (.cells #[.slice A D.length c] 88 (0, 0)) ∧ DOwn w (P + 1) (.slice A D.length c) D
theorem pst_more {w : World} {P : Nat} {D : List Ded} {d : Ded} {A A' : Option Addr} {c c' : Nat} (hJ : w.heap[P]? = some (.cells #[.slice A D.length c] 88 (0, 0)))
    (hO : DOwn w (P + 1) (.slice A' (D ++ [d]).length c') (D ++ [d])) : PSt (w.setCell ⟨P, 0, none⟩ (.slice A' (D.length + 1) c')) P (D ++ [d]) := by
  have hl : D.length + 1 = (D ++ [d]).length := by simp
  rw [hl]
  exact ⟨A', c', heap_setCell_same w P 0 _ _ (.slice A' (D ++ [d]).length c') hJ, hO.set_other hJ (by decide) 0 _⟩
theorem PSt.below {w w' : World} {P b : Nat} {D : List Ded} (h : PSt w P D) (hb : Below b w w') (hw : w.heap.size ≤ b) : PSt w' P D := by
  obtain ⟨A, c, hJ, hO⟩ := h
  have := (Array.getElem?_eq_some_iff.1 hJ).1
  exact ⟨A, c, (hb.block P (by omega)).trans hJ, hO.below hb hw⟩
theorem putD_length (a : Nat) (l : List UInt8) : (putD a l).length ≤ l.length := by
  induction l generalizing a with
  | nil => exact Nat.le_refl _
  | cons c l ih =>
    unfold putD
    have := ih (a + 1)
    split
    · rw [List.length_cons]; omega
    · rw [List.length_cons, List.length_cons]; omega
theorem take_snoc_ {l : List UInt8} {j : Nat} (h : j < l.length) : l.take (j + 1) = l.take j ++ [l.getD j 0] := by
  rw [List.take_succ_eq_append_getElem h, getD_lt h]

set_option maxHeartbeats 4000000 in
set_option maxRecDepth 100000 in
theorem put_any (P a : Nat) (s : ByteArray) (D : List Ded) (w : World) (hs : s.size ≤ 5000) (ha : a ≤ 100000) (hD : D.length ≤ 20000) (hP : PSt w P D) :
    Calls Try.prog 52 #[.pointer (some ⟨P, 0, none⟩), .int .i64 a, .string s] w fun e w' => Below P w w' ∧ PSt w' P (D ++ putD a (bytesOf s)) ∧ ∃ u, e = .returned u := by
  have HP := Lib.hid hP
  have hsl : (bytesOf s).length = s.size := bytes_length s
  have HSL := Lib.hid hsl
  clear hP hsl
  go_enter Try.func52, Try.ntmps52
  go_wp2_with fail
  go_loopw [9] (fun i wr => ∃ j : Nat, j ≤ s.size ∧ i = .int .i64 j ∧ PSt wr P (D ++ putD a ((bytesOf s).take j)) ∧ Below P w wr) (fun i _ => s.size - (intOf i).toNat)
  case atStart => exact ⟨0, Nat.zero_le _, rfl, by rw [List.take_zero]; simpa [putD] using HP.out, Below.refl _ _⟩
  case round =>
    obtain ⟨j, hj, rfl, hJ, hb⟩ := hrel
    have HJ := Lib.hid hJ
    have HB := Lib.hid hb
    by_cases hlt : j < s.size
    · have hlt' : (j : Int) < s.size := by omega
      have hsn := take_snoc_ (l := bytesOf s) (j := j) (by rw [HSL.out]; exact hlt)
      have ix := run_index_byte s j hlt
      obtain ⟨c, hc⟩ : ∃ c, c = (bytesOf s).getD j 0 := ⟨_, rfl⟩
      rw [← hc] at ix hsn
      have hx8 : c.toNat < 256 := u8_lt_ _
      have hap := putD_append a ((bytesOf s).take j) c
      rw [List.length_take, HSL.out, show min j s.size = j by omega, ← hsn] at hap
      have HAP := Lib.hid hap
      obtain ⟨x, hx⟩ : ∃ x, x = c.toNat := ⟨_, rfl⟩
      rw [← hx] at ix hx8
      obtain ⟨D', hD'⟩ : ∃ D', D' = D ++ putD a ((bytesOf s).take j) := ⟨_, rfl⟩
      have hDl : D'.length ≤ 30000 := by
        have := putD_length a ((bytesOf s).take j)
        rw [List.length_take, HSL.out] at this
        rw [hD', List.length_append]; omega
      rw [← hD'] at hJ
      by_cases t : c = 255
      · rw [if_pos t, List.append_nil] at hap
        have hx2 : ((x : Int) != 255) = false := by
          have : x = 255 := by rw [hx, t]; rfl
          rw [this]; rfl
        have HAPX := Lib.hid hap
        clear hJ hb hsn hc hap hx hD' t
        go_wp2_with fail
        go_roundw
        case rel => exact ⟨j + 1, hlt, by go_num, by rw [HAPX.out]; exact HJ.out, HB.out⟩
        case measure => (simp [intOf]; try omega)
      · rw [if_neg t] at hap
        have hx2 : ((x : Int) != 255) = true := by
          have : x ≠ 255 := fun e => t (by rw [← UInt8.toNat_inj, ← hx, e]; rfl)
          simp; omega
        obtain ⟨A, c0, hJ, hO⟩ := hJ
        obtain ⟨q, hq⟩ : ∃ q, q = a + j := ⟨_, rfl⟩
        rw [← hq, ← hx] at hap
        have HAPX := Lib.hid (show D ++ putD a ((bytesOf s).take (j + 1)) = D' ++ [⟨1, (q : Int), (x : Int)⟩] by rw [hap, hD', List.append_assoc])
        have q4 : IntKind.i64.wrap ((a : Int) + j) = (q : Int) := by rw [IntWalk.i64_in _ (by omega)]; omega
        have q5 : IntKind.i64.wrap (x : Int) = x := IntWalk.i64_in _ (by omega)
        have s0 := cell_of_heap hJ 0
        have f0 := free_of_heap hJ 0
        simp only [List.getElem?_toArray, List.getElem?_cons_zero] at s0
        have hPl : P < wr.heap.size := (Array.getElem?_eq_some_iff.1 hJ).1
        have HOA := Lib.hid (show ∀ o : Obj, DOwn (wr.alloc o).drew (P + 1) (.slice A D'.length c0) D' from fun o => World.ownsRow.alloc hO o)
        have HRA := Lib.hid (show Row Ded.cells 3 (wr.alloc (.cells #[.int .i64 1, .int .i64 (q : Int), .int .i64 (x : Int)] 32)).drew (some ⟨wr.heap.size, 0, none⟩) [⟨1, (q : Int), (x : Int)⟩] from row_block (enc := Ded.cells) (k := 3) (fun _ => rfl) (heap_alloc_new wr (.cells #[.int .i64 1, .int .i64 (q : Int), .int .i64 (x : Int)] 32)) rfl)
        have HJA := Lib.hid (show ∀ o : Obj, (wr.alloc o).drew.heap[P]? = some (.cells #[.slice A D'.length c0] 88 (0, 0)) from fun o => (Below.heap_alloc wr o P hPl).trans hJ)
        have HBA := Lib.hid (show ∀ o : Obj, Below P wr (wr.alloc o).drew from fun o => ((Below.refl _ _).alloc (Nat.le_of_lt hPl) o).drew)
        have HLR := Lib.hid (show D'.length + ([⟨1, (q : Int), (x : Int)⟩] : List Ded).length ≤ 1000000 by simp only [List.length_singleton]; omega)
        have HBS := Lib.hid (show ∀ o : Obj, P + 1 ≤ (wr.alloc o).drew.heap.size from fun o => by have : wr.heap.size ≤ (wr.alloc o).heap.size := (by simp); show P + 1 ≤ (wr.alloc o).heap.size; omega)
        clear hJ hb hsn hc hap hx hD' t hO hq hDl
        go_upto_region 4 with fail
        go_region_law ((refine step_deds _ (by rfl) (.tmp 20) (.tmp 29) (by rfl) (P + 1) (.slice A D'.length c0) D' (by rfl) (HOA.out _) (some ⟨wr.heap.size, 0, none⟩) 1 [⟨1, (q : Int), (x : Int)⟩] (by rfl) HRA.out HLR.out (HBS.out _) ?_; intro v' w2 ho2 hb2; obtain ⟨A', c', rfl⟩ := own_slice ho2; have hJ2 := (hb2.block P (Nat.lt_succ_self P)).trans (HJA.out _); have z2 := cell_of_heap hJ2 0; have zf := free_of_heap hJ2 0; simp only [List.getElem?_toArray, List.getElem?_cons_zero] at z2; have HPN := Lib.hid (pst_more hJ2 ho2); have HB2 := Lib.hid (HB.out.trans ((HBA.out _).trans (hb2.mono (Nat.le_succ P)))); clear hJ2 ho2 hb2))
        all_goals (
          go_wp2_with fail
          go_roundw
          case rel => exact ⟨j + 1, hlt, by go_num, by rw [HAPX.out]; exact HPN.out, HB2.out.setCell (p := ⟨P, 0, none⟩) (Nat.le_refl _) _⟩
          case measure => (simp [intOf]; try omega))
    · obtain rfl : j = s.size := by omega
      have HE := Lib.hid (show (bytesOf s).take s.size = bytesOf s from List.take_of_length_le (by rw [HSL.out]; exact Nat.le_refl _))
      clear hJ hb
      go_wp2_with fail
      go_end0
      exact ⟨HB.out, by rw [← HE.out]; exact HJ.out, _, rfl⟩

end Go.Proofs.Ytpmjgkngkaleeaa
