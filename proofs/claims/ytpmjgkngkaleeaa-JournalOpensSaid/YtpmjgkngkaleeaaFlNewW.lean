import Derived.Test.YtpmjgkngkaleeaaFlTornW
/- flash.New (chapter K): slices.Repeat walked. -/
namespace Go.Proofs.Ytpmjgkngkaleeaa
open Go.RowKit

theorem TOwn.of_row {w : World} {g : Nat} {cs : List Value} {l : List ByteArray} {n : Nat} {base : Nat} (h : w.heap[g]? = some (.cells cs.toArray 9 (0, 0))) (hcs : cs = l.map Value.string) (hn : n = l.length) (hl : l.length ≤ 1000000) (hg : base ≤ g) : TOwn w base (.slice (some ⟨g, 0, none⟩) n n) l := by
  subst hcs hn
  refine ⟨by simp, .inr ⟨g, l.length, (l.map Value.string).toArray, rfl, hg, h, Nat.le_refl _, by simp only [maxLen]; omega, by simp, ?_⟩⟩
  simp [List.take_of_length_le]

set_option maxHeartbeats 4000000 in
set_option maxRecDepth 100000 in
theorem Repeat_any (s : ByteArray) (c : Nat) (h1 : 1 ≤ c) (h32 : c ≤ 32) (A : Addr) (cap : Nat) (w : World) (hs : w.cell? A = some (.string s)) :
    Calls Try.prog 32 #[.slice (some A) 1 cap, .int .i64 c] w fun e w' => Below w.heap.size w w' ∧ ∃ A' : Option Addr, e = .returned (.slice A' c c) ∧ TOwn w' w.heap.size (.slice A' c c) (List.replicate c s) := by
  have hmk := run_make_row' (P := Try.prog) 22 9 (.string ⟨#[]⟩) 16 Try.underlying22 Try.infoStr rfl .i64 .i64 c (by omega) (by omega)
  rw [made_filled s c] at hmk
  have cM := Lib.hid (fun W => Mul_one c h32 W)
  have q1 : IntKind.u64.wrap (c : Int) = c := IntWalk.u64_in _ (by omega)
  have q2 : IntKind.i64.wrap (c : Int) = c := IntWalk.i64_in _ (by omega)
  have t1 : ¬ ((c : Int) < 0) := by omega
  have t2 : ¬ ((9223372036854775807 : Int) < c) := by omega
  obtain ⟨w1, hw1⟩ : ∃ x, x = w.alloc (.cells (filled s c 0).toArray 9) := ⟨_, rfl⟩
  have hg1 : w1.heap[w.heap.size]? = some (.cells (filled s c 0).toArray 9 (0, 0)) := by rw [hw1]; exact heap_alloc_new _ _
  have hb1 : Below w.heap.size w w1 := by rw [hw1]; exact (Below.refl _ _).alloc (Nat.le_refl _) _
  have hs1 := (hb1.cell (p := A) (cell_lt' hs)).trans hs
  have hw1' := hw1.symm
  have HG1 := Lib.hid hg1
  have HB1 := Lib.hid hb1
  have HS1 := Lib.hid hs1
  have HZ : (Try.prog.info? 9).map (·.size) = some 1 := by kernel_rfl
  clear hw1 hg1 hb1 hs hs1
  go_enter Try.func32, Try.ntmps32
  have H1 := Lib.hid (show [Value.string s].length = Nat.min 1 c from (Nat.min_eq_left h1).symm)
  have H2 := Lib.hid (show ∀ (j : Nat) v, [Value.string s][j]? = some v → w1.cell? (A.add j) = some v from
    fun j v hj => by
      cases j with
      | zero => rw [add_zero_, HS1.out]; simpa using hj
      | succ j => simp at hj)
  have H3 := Lib.hid (show 0 + [Value.string s].length ≤ (filled s c 0).length from by rw [filled_length (Nat.zero_le _)]; simpa using h1)
  have H4 := Lib.hid (show ∀ v ∈ [Value.string s], v.oneCell' = true from by intro v hv; simp at hv; subst hv; rfl)
  go_upto_region 9 with (first
    | (go_at_call 47; refine (cM.out _).mono ?_; rintro e w' ⟨rfl, rfl⟩)
    | (refine wpList_copy_splice rfl (.tmp 31) (.tmp 32) 22 22 rfl 9 Try.underlying22 HZ (some ⟨w.heap.size, 0, none⟩) (some A) c c 1 cap rfl rfl w.heap.size 0 (filled s c 0) 9 HG1.out [.string s] H1.out (fun _ => ⟨rfl, A, rfl, H2.out⟩) H3.out H4.out w.heap.size w HB1.out (Nat.le_refl _) ?_
       intro w2 HG2 hb2
       have hG2 : w2.heap[w.heap.size]? = some (.cells (filled s c 1).toArray 9 (0, 0)) := by have := HG2.out; rwa [show [Value.string s] = List.replicate 1 (.string s) from rfl, splice_filled s c 0 1 (by omega)] at this
       have HG3 := Lib.hid hG2
       have HB2 := Lib.hid hb2
       clear HG2 hG2 hb2))
  clear H1 H2 H3 H4 hmk HG1 HS1 hw1'
  go_loopw [8] (fun i wr => ∃ k : Nat, 1 ≤ k ∧ k ≤ c ∧ i = .int .i64 k ∧ wr.heap[w.heap.size]? = some (.cells (filled s c k).toArray 9 (0, 0)) ∧ Below w.heap.size w wr) (fun i _ => c - (intOf i).toNat)
  case atStart => exact ⟨1, Nat.le_refl _, h1, rfl, HG3.out, HB2.out⟩
  case round =>
    obtain ⟨k, hk1, hkc, rfl, hg, hb⟩ := hrel
    have HG := Lib.hid hg
    have HB := Lib.hid hb
    by_cases hlt : k < c
    · have hlt' : (k : Int) < c := by omega
      have hne : ¬ (k = c) := by omega
      have hne' : ¬ (c = k) := by omega
      obtain ⟨m, hm⟩ : ∃ m, m = Nat.min k (c - k) := ⟨_, rfl⟩
      have hm1 : k + m ≤ c := by have : Nat.min k (c - k) ≤ c - k := Nat.min_le_right _ _; omega
      have hm2 : 1 ≤ m := by rw [hm]; exact Nat.le_min.2 ⟨hk1, by omega⟩
      have hm3 : m ≤ k := by rw [hm]; exact Nat.min_le_left _ _
      have H1 := Lib.hid (show (List.replicate m (Value.string s)).length = Nat.min k (c - k) by rw [List.length_replicate, hm])
      have H2 := Lib.hid (show ∀ (j : Nat) v, (List.replicate m (Value.string s))[j]? = some v → wr.drew.cell? ((⟨w.heap.size, 0, none⟩ : Addr).add j) = some v from fun j v hj => by
        rw [List.getElem?_replicate] at hj
        split at hj
        · next hjm =>
          have e : (⟨w.heap.size, 0, none⟩ : Addr).add j = ⟨w.heap.size, j, none⟩ := by unfold Addr.add; split <;> simp_all
          have hc := cell_of_heap (show wr.drew.heap[w.heap.size]? = _ from hg) j
          rw [e, hc, ← hj]
          simp only [List.getElem?_toArray]
          exact filled_get s c k j (by omega)
        · cases hj)
      have H3 := Lib.hid (show k + (List.replicate m (Value.string s)).length ≤ (filled s c k).length by rw [filled_length hkc, List.length_replicate]; exact hm1)
      have H4 := Lib.hid (show ∀ v ∈ List.replicate m (Value.string s), v.oneCell' = true from by intro v hv; rw [List.eq_of_mem_replicate hv]; rfl)
      have HGD := Lib.hid (show wr.drew.heap[w.heap.size]? = some (.cells (filled s c k).toArray 9 (0, 0)) from hg)
      have HBD := Lib.hid (show Below w.heap.size w wr.drew from below_drewN hb 1)
      obtain ⟨L, hL⟩ : ∃ L, L = List.replicate m (Value.string s) := ⟨_, rfl⟩
      have hLl : L.length = m := by rw [hL]; simp
      have HSP := Lib.hid (show splice (filled s c k) k L = filled s c (k + m) by rw [hL]; exact splice_filled s c k m hm1)
      rw [← hL] at H1 H2 H3 H4
      clear hg hb hm hL
      go_upto_region 9 with fail
      go_region_law (refine step_copy_splice rfl (.tmp 41) (.tmp 44) 22 22 rfl 9 Try.underlying22 HZ (some ⟨w.heap.size, k, none⟩) (some ⟨w.heap.size, 0, none⟩) (c - k) (c - k) k c (by simp [Act.eval, Act.put, hne']) (by simp [Act.eval, Act.put]) w.heap.size k (filled s c k) 9 HGD.out L H1.out (fun _ => ⟨rfl, _, rfl, H2.out⟩) H3.out H4.out w.heap.size w HBD.out (Nat.le_refl _) ?_; intro w4 hg4 hb4)
      have q3 : IntKind.i64.wrap ((k : Int) + (m : Int)) = ((k + m : Nat) : Int) := by rw [IntWalk.i64_in _ (by omega)]; omega
      rw [HSP.out] at hg4
      have HG4 := Lib.hid hg4.out
      have HB4 := Lib.hid hb4
      clear hg4 hb4
      go_simp
      go_wp2_with fail
      go_roundw
      case rel => exact ⟨k + m, by omega, hm1, by first | rfl | (rw [q3]) | (simp only [q3]) | (simp [q3]), HG4.out, HB4.out⟩
      case measure => (simp [intOf]; try omega)
    · obtain rfl : k = c := by omega
      clear hg hb
      go_wp2_with fail
      go_ret
      refine ⟨HB.out, _, rfl, ?_⟩
      exact TOwn.of_row (cs := filled s k k) HG.out (by simp [filled]) (by simp) (by simp; omega) (Nat.le_refl _)

def newErr (b : Int) : Int := if 1 ≤ b ∧ b ≤ 32 then 0 else 3
set_option maxHeartbeats 4000000 in
set_option maxRecDepth 100000 in
theorem New_any (b : Int) (w : World) :
    Calls Try.prog 13 #[.int .i64 b] w fun e w' => Below w.heap.size w w' ∧ ∃ f' : Fl, e = .returned (.tuple #[f'.v, .int .i64 (newErr b)]) ∧ FlRes w' w.heap.size f' (resIf (newErr b) (List.replicate b.toNat blank)) := by
  obtain ⟨w1, hw1⟩ : ∃ w1, w1 = w.alloc (.cells #[.slice none 0 0] 24) := ⟨_, rfl⟩
  obtain ⟨f0, hR, hz1, hb1⟩ := box_new hw1
  have hw1' := hw1.symm
  have HR := Lib.hid hR
  have HB1 := Lib.hid hb1
  have HZ1 := Lib.hid hz1
  obtain ⟨E, hE⟩ : ∃ E, E = newErr b := ⟨_, rfl⟩
  rw [← hE]
  unfold newErr at hE
  by_cases t0 : 1 ≤ b ∧ b ≤ 32
  · rw [if_pos t0] at hE
    subst hE
    obtain ⟨c, rfl⟩ : ∃ c : Nat, b = c := ⟨b.toNat, by omega⟩
    obtain ⟨t1, t2⟩ := t0
    have c1 : 1 ≤ c := by omega
    have c2 : c ≤ 32 := by omega
    obtain ⟨B, hB⟩ : ∃ B, B = blank := ⟨_, rfl⟩
    have cB := Lib.hid (fun W => blank_any W)
    rw [← hB] at cB ⊢
    have cR := Lib.hid (fun A cap W h => Repeat_any B c c1 c2 A cap W h)
    have HC := Lib.hid c2
    clear hw1 hR hb1 f0 hB t1 t2 c2 hz1
    go_enter Try.func13, Try.ntmps13
    go_wp2_with (first
      | (go_at_call 33; refine (cB.out _).mono ?_; rintro e w2 ⟨rfl, hb2⟩
         have HB2 := Lib.hid hb2
         clear hb2)
      | (go_at_call 32; refine (cR.out _ _ _ (by rw [World.cell?_alloc_new]; rfl)).mono ?_; rintro e w4 ⟨hb4, A4, rfl, ho4⟩
         have HB4 := Lib.hid (HB2.out.trans (((Below.refl _ w2).alloc (Nat.le_refl _) (.cells #[.string B] 9)).trans (hb4.mono (by simp)) |>.mono HB2.out.size))
         have hR4 := (HB4.out.block _ (by have := HZ1.out; omega)).trans HR.out
         have z0 := cell_of_heap hR4 0
         have zf := free_of_heap hR4 0
         simp only [List.getElem?_toArray, List.getElem?_cons_zero] at z0
         have HR4 := Lib.hid hR4
         have HO4 := Lib.hid (ho4.more (show w.heap.size ≤ _ by have := HB2.out.size; have := HZ1.out; simp; omega))
         clear hR4 ho4 hb4))
    all_goals first
      | (refine fl_end rfl rfl HR4.out ?_
         refine ⟨(HB1.out.trans (HB4.out.mono HB1.out.size)).setCell (p := ⟨w.heap.size, 0, none⟩) (Nat.le_refl _) _, ⟨List.replicate c B, A4, c⟩, ?_, ?_, ?_, ?_⟩
         · show _ = Ending.returned (.tuple #[.agg #[.slice A4 (List.replicate c B).length c], _]); rw [List.length_replicate]; rfl
         · show TOwn _ _ (.slice A4 (List.replicate c B).length c) _
           rw [List.length_replicate]
           exact HO4.out.set_other HR4.out (by decide) 0 _
         · show (List.replicate c B).length ≤ c
           rw [List.length_replicate]; exact Nat.le_refl _
         · rw [resIf_zero rfl]; rfl)
      | exact absurd HC.out (by simp at *; omega)
  · rw [if_neg t0] at hE
    subst hE
    have HT := Lib.hid t0
    clear t0 hw1 hb1 hR
    have vf := free_of_heap HR.out 0
    go_enter Try.func13, Try.ntmps13
    go_wp2_with fail
    all_goals first
      | (refine fl_end rfl rfl HR.out ?_; exact ⟨HB1.out.setCell (p := ⟨w.heap.size, 0, none⟩) (Nat.le_refl _) _, noFl, rfl, noFl_own _ _, Nat.le_refl _, (resIf_ne (by decide)).symm⟩)
      | exact absurd HT.out (by simp at *; omega)

end Go.Proofs.Ytpmjgkngkaleeaa
