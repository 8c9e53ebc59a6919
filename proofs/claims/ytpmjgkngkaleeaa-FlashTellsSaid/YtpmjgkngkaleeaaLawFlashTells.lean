import Derived.Test.YtpmjgkngkaleeaaOpenF
import Derived.Test.YtpmjgkngkaleeaaRTornW
/- FlashTells: all calls of flashes answer just what the document says, errors too, whatever they are handed. No condition. -/
namespace Go.Proofs.Ytpmjgkngkaleeaa
open Go.ChangeShapes Go.WideShapes Go.ChangeAt Go.RowKit Go.WideMaps Go.WideElems
open Go.ChangeMaps (setBlock shut_map_nil open_string shut_string keptBut_setBlock frozen?_setBlock heap_setBlock_same)

set_option maxHeartbeats 4000000 in
set_option maxRecDepth 100000 in
theorem flashIs_true (f g : Fl) (e : Int) (w : World) (h : f.ok w) (h' : g.ok w) (hf : f.bl = resIf e g.bl) :
    Calls Try.prog 22 #[f.v, .int .i64 e, .int .i64 e, g.v] w fun en w' => en = .returned (.bool true) ∧ Below w.heap.size w w' := by
  obtain ⟨w1, hw1⟩ : ∃ w1, w1 = w.alloc (.cells #[.slice f.a f.bl.length f.c] 24) := ⟨_, rfl⟩
  obtain ⟨f0, hz1, hb1⟩ := box1 hw1
  obtain ⟨w2, hw2⟩ : ∃ w2, w2 = w1.alloc (.cells #[.slice g.a g.bl.length g.c] 24) := ⟨_, rfl⟩
  obtain ⟨g0, hG, hz2, hb2⟩ := box_new hw2
  have k0 := (hb2.cell (p := ⟨w.heap.size, 0, none⟩) (by simp; omega)).trans f0
  have gf := free_of_heap hG 0
  have hw1' := hw1.symm
  have hw2' := hw2.symm
  have HB2 := Lib.hid (hb1.trans (hb2.mono (by omega)))
  by_cases t0 : e = 0
  · rw [resIf_zero t0] at hf
    have cS := Lib.hid (SameFlash_any f g w2 (h.below HB2.out) (h'.below HB2.out))
    rw [hf, show decide (g.bl = g.bl) = true from decide_eq_true rfl] at cS
    have cS' := cS.out
    unfold Fl.v at cS'
    rw [hf] at cS' k0 hw1'
    have CS := Lib.hid cS'
    unfold Fl.v
    rw [hf]
    subst t0
    clear hw1 hw2 hb1 hb2 hz1 hz2 f0 hG gf h h' hf cS cS'
    go_enter Try.func22, Try.ntmps22
    go_wp2_with (go_at_call 11; refine (CS.out).mono ?_; rintro e w3 ⟨rfl, hb3⟩)
    go_ret
    exact ⟨rfl, HB2.out.trans (hb3.mono HB2.out.size)⟩
  · rw [resIf_ne t0] at hf
    have u1 : (e != 0) = true := by simp [t0]
    obtain ⟨w3, hw3⟩ : ∃ x, x = w2.setCell ⟨w1.heap.size, 0, none⟩ (.slice none 0 0) := ⟨_, rfl⟩
    have hb3 : Below w1.heap.size w2 w3 := hw3 ▸ (Below.refl _ _).setCell (p := ⟨w1.heap.size, 0, none⟩) (Nat.le_refl _) _
    have k3 := (hb3.cell (p := ⟨w.heap.size, 0, none⟩) (by simp; omega)).trans k0
    have hG3 : w3.heap[w1.heap.size]? = some (.cells #[.slice none 0 0] 24 (0, 0)) := hw3 ▸ heap_setCell_same w2 w1.heap.size 0 _ _ (.slice none 0 0) hG
    have z3 := cell_of_heap hG3 0
    simp only [List.getElem?_toArray, List.getElem?_cons_zero] at z3
    have HB3 := Lib.hid (HB2.out.trans (hb3.mono (by omega)))
    have hw3' := hw3.symm
    have cS := SameFlash_any f noFl w3 (h.below HB3.out) (noFl_ok w3)
    rw [hf, show decide (([] : List ByteArray) = noFl.bl) = true from decide_eq_true rfl] at cS
    unfold Fl.v at cS
    rw [hf] at cS k3 hw1'
    simp only [List.length_nil] at cS k3 hw1'
    change Calls _ _ #[_, .agg #[.slice none 0 0]] _ _ at cS
    have CS := Lib.hid cS
    have HU := Lib.hid t0
    unfold Fl.v
    rw [hf]
    simp only [List.length_nil]
    clear hw1 hw2 hw3 hb1 hb2 hb3 hz1 hz2 f0 hG hG3 h h' hf cS t0
    go_enter Try.func22, Try.ntmps22
    go_wp2_with (go_at_call 11; refine (CS.out).mono ?_; rintro e w4 ⟨rfl, hb4⟩)
    go_ret
    exact ⟨rfl, HB3.out.trans (hb4.mono HB3.out.size)⟩

/-- the cell of a flash of the call's own -/
def HoldsFl (w : World) (base b : Nat) (l : List ByteArray) : Prop := ∃ f : Fl, w.heap[b]? = some (.cells #[.slice f.a f.bl.length f.c] 24 (0, 0)) ∧ FlRes w base f l
theorem HoldsFl.below {w w' : World} {base b B : Nat} {l : List ByteArray} (h : HoldsFl w base b l) (hb : Below B w w') (hB : w.heap.size ≤ B) : HoldsFl w' base b l := by
  obtain ⟨f, h1, h2⟩ := h
  exact ⟨f, (hb.block b (by have := (Array.getElem?_eq_some_iff.1 h1).1; omega)).trans h1, ⟨h2.own.below hb hB, h2.cap, h2.is⟩⟩
/-- another flash's cell is written -/
theorem HoldsFl.set {w : World} {base b b' : Nat} {l : List ByteArray} (h : HoldsFl w base b l) (hne : b ≠ b') {v0 : Value} (h' : w.heap[b']? = some (.cells #[v0] 24 (0, 0))) (v : Value) : HoldsFl (w.setCell ⟨b', 0, none⟩ v) base b l := by
  obtain ⟨f, h1, h2⟩ := h
  refine ⟨f, ?_, ⟨h2.own.set_other h' (by decide) 0 v, h2.cap, h2.is⟩⟩
  rw [Below.heap_setCell _ _ _ _ hne]; exact h1
theorem HoldsFl.new {w : World} {base b : Nat} {v0 : Value} (h' : w.heap[b]? = some (.cells #[v0] 24 (0, 0))) {A : Option Addr} {n c : Nat} {l : List ByteArray} (hn : n = l.length) (hc : n ≤ c) (ho : TOwn w base (.slice A n c) l) : HoldsFl (w.setCell ⟨b, 0, none⟩ (.slice A n c)) base b l := by
  subst hn
  exact ⟨⟨l, A, c⟩, heap_setCell_same w b 0 _ _ _ h', ⟨ho.set_other h' (by decide) 0 _, hc, rfl⟩⟩
theorem HoldsFl.zero {w : World} {base b : Nat} (h' : w.heap[b]? = some (.cells #[.slice none 0 0] 24 (0, 0))) : HoldsFl w base b [] := ⟨noFl, h', ⟨noFl_own w base, Nat.le_refl _, rfl⟩⟩
theorem resIf_len {e : Int} {l : List ByteArray} (h : e = 0 → flErr l = 0) : resIf e l = [] ∨ flErr (resIf e l) = 0 := by
  by_cases t : e = 0
  · rw [resIf_zero t]; exact .inr (h t)
  · rw [resIf_ne t]; exact .inl rfl
theorem fl_ok_of {e : Int} {l : List ByteArray} {w : World} {base : Nat} {f : Fl} (h : FlRes w base f (resIf e l)) (hl : e = 0 → flErr l = 0) : f.ok w := h.ok (resIf_len hl)
theorem new_ok {b : Int} (h : newErr b = 0) : flErr (List.replicate b.toNat blank) = 0 := by
  unfold newErr at h
  split at h
  · next hb =>
    refine flErr_ok.2 ⟨by rw [List.length_replicate]; omega, fun s hs => ?_⟩
    rw [(List.mem_replicate.1 hs).2]; rfl
  · cases h
theorem deds_fl {f : List ByteArray} {l : List Ded} (h : dedsErr f l = 0) : flErr (doneL f l) = 0 := by
  obtain ⟨h1, h2⟩ := dedsErr_ok.1 h
  exact (doneL_ok h1 h2).1
theorem torn_fl {f : List ByteArray} {d : Ded} (p : List UInt8) (h : dedsErr f [d] = 0) : flErr (tornL f d p) = 0 := by
  obtain ⟨h1, h2⟩ := dedsErr_ok.1 h
  exact turned_ok _ h1 (h2 d (List.mem_singleton.2 rfl))

/-- three cells of flashes, made behind world v -/
def St3 (v w : World) (l1 l2 l3 : List ByteArray) : Prop :=
  HoldsFl w v.heap.size v.heap.size l1 ∧ HoldsFl w v.heap.size (v.heap.size + 1) l2 ∧ HoldsFl w v.heap.size (v.heap.size + 1 + 1) l3 ∧ Below v.heap.size v w
section
variable {v w w' : World} {l1 l2 l3 l : List ByteArray} {A : Option Addr} {n c : Nat}
theorem St3.start (v : World) : St3 v (((v.alloc (.cells #[.slice none 0 0] 24)).alloc (.cells #[.slice none 0 0] 24)).alloc (.cells #[.slice none 0 0] 24)) [] [] [] := by
  refine ⟨HoldsFl.zero ?_, HoldsFl.zero ?_, HoldsFl.zero ?_, (((Below.refl _ _).alloc (Nat.le_refl _) _).alloc (by simp) _).alloc (by simp; omega) _⟩
  · rw [Below.heap_alloc _ _ _ (by simp; omega), Below.heap_alloc _ _ _ (by simp)]; exact heap_alloc_new _ _
  · rw [Below.heap_alloc _ _ _ (by simp)]
    have := heap_alloc_new (v.alloc (.cells #[.slice none 0 0] 24)) (.cells #[.slice none 0 0] 24)
    simpa using this
  · have := heap_alloc_new ((v.alloc (.cells #[.slice none 0 0] 24)).alloc (.cells #[.slice none 0 0] 24)) (.cells #[.slice none 0 0] 24)
    simpa using this
theorem St3.below (h : St3 v w l1 l2 l3) (hb : Below w.heap.size w w') : St3 v w' l1 l2 l3 :=
  ⟨h.1.below hb (Nat.le_refl _), h.2.1.below hb (Nat.le_refl _), h.2.2.1.below hb (Nat.le_refl _), h.2.2.2.trans (hb.mono h.2.2.2.size)⟩
theorem HoldsFl.cell {base b : Nat} (h : HoldsFl w base b l) : ∃ x, w.cell? ⟨b, 0, none⟩ = some x ∧ w.frozen? ⟨b, 0, none⟩ = false := by
  obtain ⟨f, h1, _⟩ := h
  exact ⟨_, cell_of_heap h1 0, free_of_heap h1 0⟩
theorem St3.set1 (h : St3 v w l1 l2 l3) (hn : n = l.length) (hc : n ≤ c) (ho : TOwn w v.heap.size (.slice A n c) l) : St3 v (w.setCell ⟨v.heap.size, 0, none⟩ (.slice A n c)) l l2 l3 := by
  obtain ⟨h1, h2, h3, h4⟩ := h
  obtain ⟨f, e, _⟩ := h1
  exact ⟨HoldsFl.new e hn hc ho, h2.set (by omega) e _, h3.set (by omega) e _, h4.setCell (p := ⟨v.heap.size, 0, none⟩) (Nat.le_refl _) _⟩
theorem St3.set2 (h : St3 v w l1 l2 l3) (hn : n = l.length) (hc : n ≤ c) (ho : TOwn w v.heap.size (.slice A n c) l) : St3 v (w.setCell ⟨v.heap.size + 1, 0, none⟩ (.slice A n c)) l1 l l3 := by
  obtain ⟨h1, h2, h3, h4⟩ := h
  obtain ⟨f, e, _⟩ := h2
  exact ⟨h1.set (by omega) e _, HoldsFl.new e hn hc ho, h3.set (by omega) e _, h4.setCell (p := ⟨v.heap.size + 1, 0, none⟩) (by simp) _⟩
theorem St3.set3 (h : St3 v w l1 l2 l3) (hn : n = l.length) (hc : n ≤ c) (ho : TOwn w v.heap.size (.slice A n c) l) : St3 v (w.setCell ⟨v.heap.size + 1 + 1, 0, none⟩ (.slice A n c)) l1 l2 l := by
  obtain ⟨h1, h2, h3, h4⟩ := h
  obtain ⟨f, e, _⟩ := h3
  exact ⟨h1.set (by omega) e _, h2.set (by omega) e _, HoldsFl.new e hn hc ho, h4.setCell (p := ⟨v.heap.size + 1 + 1, 0, none⟩) (by simp; omega) _⟩
end

theorem resIf_resIf (e : Int) (l : List ByteArray) : resIf e l = resIf e (resIf e l) := by
  by_cases t : e = 0
  · rw [resIf_zero t]; exact (resIf_zero t).symm
  · rw [resIf_ne t, resIf_ne t]
theorem HoldsFl.open_ {w : World} {base b : Nat} {e : Int} {l : List ByteArray} (h : HoldsFl w base b (resIf e l)) (hl : e = 0 → flErr l = 0) :
    ∃ g : Fl, w.cell? ⟨b, 0, none⟩ = some (.slice g.a g.bl.length g.c) ∧ g.ok w ∧ g.bl = resIf e l := by
  obtain ⟨f, h1, h2⟩ := h
  have hc := cell_of_heap h1 0
  simp only [List.getElem?_toArray, List.getElem?_cons_zero] at hc
  exact ⟨f, hc, fl_ok_of h2 hl, h2.is⟩

set_option maxHeartbeats 4000000 in
set_option maxRecDepth 100000 in
theorem FlashTells_any (N : Int) (f : Fl) (P M : Int) (lA : Option Addr) (l : List Ded) (lc : Nat) (d : Ded) (s : ByteArray) (w : World) (h : f.ok w) (hP : -9223372036854775808 ≤ P ∧ P ≤ 9223372036854775807) (hM : -9223372036854775808 ≤ M ∧ M ≤ 9223372036854775807) (hl : DedsOk w lA l ∧ l.length ≤ lc ∧ lc ≤ maxLen) (_ : True) (hs : s.size ≤ 140737488351232) :
    Calls Try.prog 4 #[.int .i64 N, f.v, .int .i64 P, .int .i64 M, .slice lA l.length lc, d.v, .string s] w fun e w' => e = .returned (.bool true) ∧ Below w.heap.size w w' := by
  obtain ⟨w1, hw1⟩ : ∃ w1, w1 = w.alloc (.cells #[.slice f.a f.bl.length f.c] 24) := ⟨_, rfl⟩
  obtain ⟨f0, hz1, hb1⟩ := box1 hw1
  obtain ⟨w2, hw2⟩ : ∃ w2, w2 = w1.alloc (.cells #[.int .i64 d.kind, .int .i64 d.at_, .int .i64 d.value] 32) := ⟨_, rfl⟩
  obtain ⟨d0, d1, d2, hz2, hb2⟩ := box3 hw2
  have hw1' := hw1.symm
  have hw2' := hw2.symm
  have f2 := (hb2.cell (p := ⟨w.heap.size, 0, none⟩) (by simp; omega)).trans f0
  have HB2 := Lib.hid (hb1.trans (hb2.mono (by omega)))
  have HZ2 := Lib.hid (show w1.heap.size = w.heap.size + 1 ∧ w2.heap.size = w.heap.size + 2 by omega)
  have H := Lib.hid h
  have HL := Lib.hid hl.1
  have HP := Lib.hid hP
  have HM := Lib.hid hM
  have cN := Lib.hid (fun W => New_any N W)
  have cR := Lib.hid (fun W (hW : Below w.heap.size w W) => Read_any f P M W (h.below hW) hP hM)
  have cD := Lib.hid (fun W (hW : Below w.heap.size w W) => Do_any f lA lc l W (h.below hW) (hl.1.below hW))
  have cT := Lib.hid (fun W (hW : Below w.heap.size w W) => Torn_any f d.kind d.at_ d.value s W (h.below hW) (by unfold big; exact hs))
  have cF := Lib.hid (fun W (hW : Below w.heap.size w W) => CheckFlash_any f W (h.below hW))
  have cC := Lib.hid (fun W (hW : Below w.heap.size w W) => Check_any f W (h.below hW))
  obtain ⟨EN, hEN⟩ : ∃ E, E = newErr N := ⟨_, rfl⟩
  obtain ⟨ER, hER⟩ : ∃ E, E = readErr f.bl P M := ⟨_, rfl⟩
  obtain ⟨SR, hSR⟩ : ∃ E, E = readStr f.bl P M := ⟨_, rfl⟩
  obtain ⟨ED, hED⟩ : ∃ E, E = dedsErr f.bl l := ⟨_, rfl⟩
  obtain ⟨ET, hET⟩ : ∃ E, E = dedsErr f.bl [d] := ⟨_, rfl⟩
  obtain ⟨EF, hEF⟩ : ∃ E, E = flErr f.bl := ⟨_, rfl⟩
  change Hid (∀ W, _ → Calls _ _ _ W fun e w' => _ ∧ ∃ f' : Fl, e = .returned (.tuple #[f'.v, .int .i64 (dedsErr f.bl [d])]) ∧ FlRes w' _ f' (resIf (dedsErr f.bl [d]) (tornL f.bl d (bytesOf s)))) at cT
  rw [← hEN] at cN
  rw [← hER, ← hSR] at cR
  rw [← hED] at cD
  rw [← hET] at cT
  rw [← hEF] at cF cC
  have HEN := Lib.hid hEN
  have HER := Lib.hid hER
  have HSR := Lib.hid hSR
  have HED := Lib.hid hED
  have HET := Lib.hid hET
  have HEF := Lib.hid hEF
  clear hw1 hw2 hb1 hb2 hz1 hz2 f0 h hl hP hM hEN hER hSR hED hET hEF
  go_enter Try.func4, Try.ntmps4
  go_upto_region 6 with (first
    | (go_at_call 13; refine (cN.out _).mono ?_; rintro e w3 ⟨hb3, a, rfl, hr3⟩
       obtain ⟨w4, hw4⟩ : ∃ x, x = w3.alloc (.cells #[.slice a.a a.bl.length a.c] 24) := ⟨_, rfl⟩
       obtain ⟨a4, _, hz4, hb4⟩ := box_new hw4
       have hw4' := hw4.symm
       have hb24 := hb3.trans (hb4.mono hb3.size)
       have f4 := (hb24.cell (p := ⟨w.heap.size, 0, none⟩) (cell_lt' f2)).trans f2
       have q0 := (hb24.cell (p := ⟨w1.heap.size, 0, none⟩) (cell_lt' d0)).trans d0
       have q1 := (hb24.cell (p := ⟨w1.heap.size, 1, none⟩) (cell_lt' d1)).trans d1
       have q2 := (hb24.cell (p := ⟨w1.heap.size, 2, none⟩) (cell_lt' d2)).trans d2
       have HA4 := Lib.hid ((fl_ok_of hr3 (fun e => new_ok (HEN.out.symm.trans e))).below hb4)
       have HAX := Lib.hid hr3.is
       have HB4 := Lib.hid (HB2.out.trans (hb24.mono HB2.out.size))
       clear hw4 hz4 hb3 hb4 hr3 hb24 f2 d0 d1 d2)
    | (go_at_call 12; refine (cR.out _ HB4.out).mono ?_; rintro e w5 ⟨rfl, hb5⟩
       have f5 := (hb5.cell (p := ⟨w.heap.size, 0, none⟩) (cell_lt' f4)).trans f4
       have r0 := (hb5.cell (p := ⟨w1.heap.size, 0, none⟩) (cell_lt' q0)).trans q0
       have r1 := (hb5.cell (p := ⟨w1.heap.size, 1, none⟩) (cell_lt' q1)).trans q1
       have r2 := (hb5.cell (p := ⟨w1.heap.size, 2, none⟩) (cell_lt' q2)).trans q2
       have a5 := (hb5.cell (p := ⟨w3.heap.size, 0, none⟩) (cell_lt' a4)).trans a4
       have HA5 := Lib.hid (HA4.out.below hb5)
       have HB5 := Lib.hid (HB4.out.trans (hb5.mono HB4.out.size))
       clear hb5 f4 q0 q1 q2 a4)
    | (go_at_call 10; refine (cD.out _ HB5.out).mono ?_; rintro e w6 ⟨hb6, b, rfl, hr6⟩
       obtain ⟨w7, hw7⟩ : ∃ x, x = w6.alloc (.cells #[.slice b.a b.bl.length b.c] 24) := ⟨_, rfl⟩
       obtain ⟨b7, _, hz7, hb7⟩ := box_new hw7
       have hw7' := hw7.symm
       have hb57 := hb6.trans (hb7.mono hb6.size)
       have f7 := (hb57.cell (p := ⟨w.heap.size, 0, none⟩) (cell_lt' f5)).trans f5
       have s0 := (hb57.cell (p := ⟨w1.heap.size, 0, none⟩) (cell_lt' r0)).trans r0
       have s1 := (hb57.cell (p := ⟨w1.heap.size, 1, none⟩) (cell_lt' r1)).trans r1
       have s2 := (hb57.cell (p := ⟨w1.heap.size, 2, none⟩) (cell_lt' r2)).trans r2
       have a7 := (hb57.cell (p := ⟨w3.heap.size, 0, none⟩) (cell_lt' a5)).trans a5
       have HA7 := Lib.hid (HA5.out.below hb57)
       have HO7 := Lib.hid ((fl_ok_of hr6 (fun e => deds_fl (HED.out.symm.trans e))).below hb7)
       have HBX := Lib.hid hr6.is
       have HB7 := Lib.hid (HB5.out.trans (hb57.mono HB5.out.size))
       clear hw7 hz7 hb6 hb7 hr6 hb57 f5 r0 r1 r2 a5)
    | (go_at_call 14; refine (cT.out _ HB7.out).mono ?_; rintro e w8 ⟨hb8, c, rfl, hr8⟩
       obtain ⟨w9, hw9⟩ : ∃ x, x = w8.alloc (.cells #[.slice c.a c.bl.length c.c] 24) := ⟨_, rfl⟩
       obtain ⟨c9, _, hz9, hb9⟩ := box_new hw9
       have hw9' := hw9.symm
       have hb79 := hb8.trans (hb9.mono hb8.size)
       have f9 := (hb79.cell (p := ⟨w.heap.size, 0, none⟩) (cell_lt' f7)).trans f7
       have t0 := (hb79.cell (p := ⟨w1.heap.size, 0, none⟩) (cell_lt' s0)).trans s0
       have t1 := (hb79.cell (p := ⟨w1.heap.size, 1, none⟩) (cell_lt' s1)).trans s1
       have t2 := (hb79.cell (p := ⟨w1.heap.size, 2, none⟩) (cell_lt' s2)).trans s2
       have a9 := (hb79.cell (p := ⟨w3.heap.size, 0, none⟩) (cell_lt' a7)).trans a7
       have b9 := (hb79.cell (p := ⟨w6.heap.size, 0, none⟩) (cell_lt' b7)).trans b7
       have HA9 := Lib.hid (HA7.out.below hb79)
       have HO9 := Lib.hid (HO7.out.below hb79)
       have HC9 := Lib.hid ((fl_ok_of hr8 (fun e => torn_fl _ (HET.out.symm.trans e))).below hb9)
       have HCX := Lib.hid hr8.is
       have HB9 := Lib.hid (HB7.out.trans (hb79.mono HB7.out.size))
       clear hw9 hz9 hb8 hb9 hr8 hb79 f7 s0 s1 s2 a7 b7)
    | (go_at_call 15; refine (cF.out _ HB9.out).mono ?_; rintro e w10 ⟨rfl, hb10⟩
       have f10 := (hb10.cell (p := ⟨w.heap.size, 0, none⟩) (cell_lt' f9)).trans f9
       have v0 := (hb10.cell (p := ⟨w1.heap.size, 0, none⟩) (cell_lt' t0)).trans t0
       have v1 := (hb10.cell (p := ⟨w1.heap.size, 1, none⟩) (cell_lt' t1)).trans t1
       have v2 := (hb10.cell (p := ⟨w1.heap.size, 2, none⟩) (cell_lt' t2)).trans t2
       have a10 := (hb10.cell (p := ⟨w3.heap.size, 0, none⟩) (cell_lt' a9)).trans a9
       have b10 := (hb10.cell (p := ⟨w6.heap.size, 0, none⟩) (cell_lt' b9)).trans b9
       have c10 := (hb10.cell (p := ⟨w8.heap.size, 0, none⟩) (cell_lt' c9)).trans c9
       have HA10 := Lib.hid (HA9.out.below hb10)
       have HO10 := Lib.hid (HO9.out.below hb10)
       have HC10 := Lib.hid (HC9.out.below hb10)
       have HB10 := Lib.hid (HB9.out.trans (hb10.mono HB9.out.size))
       clear hb10 f9 t0 t1 t2 a9 b9 c9))
  go_cut [65] from 60 to 65 (fun c wx => c = .bool (EN != 0) ∧ w10 = wx)
  case first =>
    have hEN := HEN.out
    unfold newErr at hEN
    by_cases u1 : N < 1
    · rw [if_neg (by omega)] at hEN
      have HE2 := Lib.hid hEN
      clear hEN
      go_wp2_with fail
      go_meet
      exact ⟨by rw [HE2.out]; rfl, rfl⟩
    · by_cases u2 : 32 < N
      · rw [if_neg (by omega)] at hEN
        have HE2 := Lib.hid hEN
        clear hEN
        go_wp2_with fail
        go_meet
        exact ⟨by rw [HE2.out]; rfl, rfl⟩
      · rw [if_pos (by omega)] at hEN
        have HE2 := Lib.hid hEN
        clear hEN
        go_wp2_with fail
        go_meet
        exact ⟨by rw [HE2.out]; rfl, rfl⟩
  case rest =>
    obtain ⟨rfl, rfl⟩ := hcut
    go_upto_if 65 with fail
    go_cut [23] from 60 to 65 (fun u wx => u = .int .i64 EN ∧ w10 = wx)
    case first =>
      by_cases t : EN = 0
      · have t2 : (EN != 0) = false := by simp [t]
        rw [t2]
        have HT := Lib.hid t
        clear t t2
        go_wp2_with fail
        go_meet
        exact ⟨by rw [HT.out], rfl⟩
      · have t2 : (EN != 0) = true := by simp [t]
        have t3 : EN = 3 := by
          have := HEN.out
          unfold newErr at this
          split at this
          · exact absurd this t
          · exact this
        rw [t2]
        have HT := Lib.hid t3
        clear t t2 t3
        go_wp2_with fail
        go_meet
        exact ⟨by rw [HT.out], rfl⟩
    obtain ⟨rfl, rfl⟩ := hcut
    clear cN cR cD cT cF
    go_upto_region 8 with fail
    have cX := Lib.hid (fun W (hW : Below w10.heap.size w10 W) => CheckDeeds_any f lA lc l W (H.out.below (HB10.out.trans (hW.mono HB10.out.size))) (HL.out.below (HB10.out.trans (hW.mono HB10.out.size))))
    have cY := Lib.hid (fun B W (hW : Below w10.heap.size w10 W) (hd : W.heap[B]? = some (.cells #[.int .i64 d.kind, .int .i64 d.at_, .int .i64 d.value] 32 (0, 0))) => CheckDeeds_any f (some ⟨B, 0, none⟩) 1 [d] W (H.out.below (HB10.out.trans (hW.mono HB10.out.size))) (deds_block (l := [d]) hd rfl (by simp)))
    rw [← HED.out] at cX
    rw [← HET.out] at cY
    change Hid (∀ B W, _ → _ → Calls _ _ #[_, .slice _ 1 1] W _) at cY
    have l1 : w.heap.size < w10.heap.size := cell_lt' f10
    have l2 : w1.heap.size < w10.heap.size := cell_lt' v0
    have HNW := Lib.hid (show ∀ (W : World) (o : Obj), (W.alloc o).drew.heap[W.heap.size]? = some o from fun W o => heap_alloc_new W o)
    have HC0 := Lib.hid (show Below w10.heap.size w10 w10 ∧ w10.cell? ⟨w.heap.size, 0, none⟩ = some (.slice f.a f.bl.length f.c) ∧ w10.cell? ⟨w1.heap.size, 0, none⟩ = some (.int .i64 d.kind) ∧ w10.cell? ⟨w1.heap.size, 1, none⟩ = some (.int .i64 d.at_) ∧ w10.cell? ⟨w1.heap.size, 2, none⟩ = some (.int .i64 d.value) from ⟨Below.refl _ _, by assumption, by assumption, by assumption, by assumption⟩)
    have HCD := Lib.hid (show ∀ W' : World, (Below w10.heap.size w10 W' ∧ W'.cell? ⟨w.heap.size, 0, none⟩ = some (.slice f.a f.bl.length f.c) ∧ W'.cell? ⟨w1.heap.size, 0, none⟩ = some (.int .i64 d.kind) ∧ W'.cell? ⟨w1.heap.size, 1, none⟩ = some (.int .i64 d.at_) ∧ W'.cell? ⟨w1.heap.size, 2, none⟩ = some (.int .i64 d.value)) → (Below w10.heap.size w10 W'.drew ∧ W'.drew.cell? ⟨w.heap.size, 0, none⟩ = some (.slice f.a f.bl.length f.c) ∧ W'.drew.cell? ⟨w1.heap.size, 0, none⟩ = some (.int .i64 d.kind) ∧ W'.drew.cell? ⟨w1.heap.size, 1, none⟩ = some (.int .i64 d.at_) ∧ W'.drew.cell? ⟨w1.heap.size, 2, none⟩ = some (.int .i64 d.value)) from fun W' ⟨b, a0, a1, a2, a3⟩ => ⟨b.drew, a0, a1, a2, a3⟩)
    have HCS := Lib.hid (show ∀ W' W2 : World, (Below w10.heap.size w10 W' ∧ W'.cell? ⟨w.heap.size, 0, none⟩ = some (.slice f.a f.bl.length f.c) ∧ W'.cell? ⟨w1.heap.size, 0, none⟩ = some (.int .i64 d.kind) ∧ W'.cell? ⟨w1.heap.size, 1, none⟩ = some (.int .i64 d.at_) ∧ W'.cell? ⟨w1.heap.size, 2, none⟩ = some (.int .i64 d.value)) → Below W'.heap.size W' W2 → (Below w10.heap.size w10 W2 ∧ W2.cell? ⟨w.heap.size, 0, none⟩ = some (.slice f.a f.bl.length f.c) ∧ W2.cell? ⟨w1.heap.size, 0, none⟩ = some (.int .i64 d.kind) ∧ W2.cell? ⟨w1.heap.size, 1, none⟩ = some (.int .i64 d.at_) ∧ W2.cell? ⟨w1.heap.size, 2, none⟩ = some (.int .i64 d.value)) from fun W' W2 ⟨b, a0, a1, a2, a3⟩ hb => have s := b.size; ⟨b.trans (hb.mono s), (hb.cell (by first | omega | (simp; omega) | (simp only [block_of_add]; omega))).trans a0, (hb.cell (by first | omega | (simp; omega) | (simp only [block_of_add]; omega))).trans a1, (hb.cell (by first | omega | (simp; omega) | (simp only [block_of_add]; omega))).trans a2, (hb.cell (by first | omega | (simp; omega) | (simp only [block_of_add]; omega))).trans a3⟩)
    have HCA := Lib.hid (show ∀ (W' : World) (o : Obj), (Below w10.heap.size w10 W' ∧ W'.cell? ⟨w.heap.size, 0, none⟩ = some (.slice f.a f.bl.length f.c) ∧ W'.cell? ⟨w1.heap.size, 0, none⟩ = some (.int .i64 d.kind) ∧ W'.cell? ⟨w1.heap.size, 1, none⟩ = some (.int .i64 d.at_) ∧ W'.cell? ⟨w1.heap.size, 2, none⟩ = some (.int .i64 d.value)) → (Below w10.heap.size w10 (W'.alloc o) ∧ (W'.alloc o).cell? ⟨w.heap.size, 0, none⟩ = some (.slice f.a f.bl.length f.c) ∧ (W'.alloc o).cell? ⟨w1.heap.size, 0, none⟩ = some (.int .i64 d.kind) ∧ (W'.alloc o).cell? ⟨w1.heap.size, 1, none⟩ = some (.int .i64 d.at_) ∧ (W'.alloc o).cell? ⟨w1.heap.size, 2, none⟩ = some (.int .i64 d.value)) from fun W' o hc => HCS.out W' (W'.alloc o) hc ((Below.refl _ _).alloc (Nat.le_refl _) o))
    have HCL := Lib.hid (show ∀ W' : World, (Below w10.heap.size w10 W' ∧ W'.cell? ⟨w.heap.size, 0, none⟩ = some (.slice f.a f.bl.length f.c) ∧ W'.cell? ⟨w1.heap.size, 0, none⟩ = some (.int .i64 d.kind) ∧ W'.cell? ⟨w1.heap.size, 1, none⟩ = some (.int .i64 d.at_) ∧ W'.cell? ⟨w1.heap.size, 2, none⟩ = some (.int .i64 d.value)) → Below w10.heap.size w10 W' from fun W' hc => hc.1)
    go_cut [25, 26, 27] from 66 to 73 (fun p q r wx => p = .int .i64 EF ∧ q = .int .i64 ED ∧ r = .int .i64 ET ∧ Below w10.heap.size w10 wx)
    case first =>
      go_region_held3 (fun W' => Below w10.heap.size w10 W' ∧ W'.cell? ⟨w.heap.size, 0, none⟩ = some (.slice f.a f.bl.length f.c) ∧ W'.cell? ⟨w1.heap.size, 0, none⟩ = some (.int .i64 d.kind) ∧ W'.cell? ⟨w1.heap.size, 1, none⟩ = some (.int .i64 d.at_) ∧ W'.cell? ⟨w1.heap.size, 2, none⟩ = some (.int .i64 d.value)) (first | exact HC0.out | exact HCD.out _ HC0.out | exact HCS.out _ _ (by assumption) (by assumption) | exact HCS.out _ _ HC0.out (by assumption) | exact HCS.out _ _ (HCD.out _ HC0.out) (by assumption) | exact HCS.out _ _ (HCD.out _ (by assumption)) (by assumption) | exact HCD.out _ (by assumption) | exact HCA.out _ _ (by assumption) | exact HCA.out _ _ HC0.out | exact HCA.out _ _ (HCD.out _ HC0.out) | exact HCD.out _ (HCA.out _ _ (by assumption)) | assumption) (first | (go_at_call 16; with_reducible refine (cX.out _ (HCL.out _ (by assumption))).mono ?_; rintro e wz ⟨rfl, hbz⟩; have hdq := hbz.block w10.heap.size) | (go_at_call 16; with_reducible refine (cY.out _ _ (HCL.out _ (by assumption)) (by first | exact heap_alloc_new _ _ | exact (hdq (by simp)).trans (HNW.out _ _))).mono ?_; rintro e wy ⟨rfl, hby⟩))
      all_goals (
        go_wp2_with fail
        go_meet
        exact ⟨rfl, rfl, rfl, HCL.out _ (by assumption)⟩)
    case rest =>
      obtain ⟨rfl, rfl, rfl, hb11⟩ := hcut
      obtain ⟨w11, rfl⟩ : ∃ W : World, W = wc := ⟨_, rfl⟩
      have f11 := (hb11.cell (p := ⟨w.heap.size, 0, none⟩) l1).trans f10
      have y0 := (hb11.cell (p := ⟨w1.heap.size, 0, none⟩) l2).trans v0
      have y1 := (hb11.cell (p := ⟨w1.heap.size, 1, none⟩) l2).trans v1
      have y2 := (hb11.cell (p := ⟨w1.heap.size, 2, none⟩) l2).trans v2
      have a11 := (hb11.cell (p := ⟨w3.heap.size, 0, none⟩) (cell_lt' a10)).trans a10
      have b11 := (hb11.cell (p := ⟨w6.heap.size, 0, none⟩) (cell_lt' b10)).trans b10
      have c11 := (hb11.cell (p := ⟨w8.heap.size, 0, none⟩) (cell_lt' c10)).trans c10
      have HA11 := Lib.hid (HA10.out.below hb11)
      have HO11 := Lib.hid (HO10.out.below hb11)
      have HC11 := Lib.hid (HC10.out.below hb11)
      have HB11 := Lib.hid (HB10.out.trans (hb11.mono HB10.out.size))
      clear hb11 HC0 HCD HCS HCA HCL cX cY HNW l1 l2 f10 v0 v1 v2 a10 b10 c10 HA10 HO10 HC10
      obtain ⟨n, hn⟩ : ∃ n, n = f.bl.length := ⟨_, rfl⟩
      have hnb : n ≤ 140737488351232 := by rw [hn]; exact H.out.row.len
      rw [← hn] at f11
      have HN := Lib.hid hn
      clear hn
      go_upto_region 10 with fail
      go_cut [99] from 78 to 99 (fun c wx => c = .bool (decide (EF = 0 ∧ ER ≠ 0)) ∧ w11 = wx)
      case first =>
        have hER := HER.out
        unfold readErr at hER
        rw [← HEF.out, ← HN.out] at hER
        by_cases t : EF = 0
        · rw [if_pos t] at hER
          have t2 : (EF == 0) = true := by simp [t]
          have hn32 : n ≤ 32 := by rw [HN.out]; exact (flErr_ok.1 (HEF.out.symm.trans t)).1.2
          have HT := Lib.hid t
          clear t
          by_cases u1 : P < 0
          · rw [if_pos (by omega)] at hER
            have HR := Lib.hid hER
            clear hER
            go_wp2_with fail
            go_meet
            exact ⟨by rw [HT.out, HR.out]; rfl, rfl⟩
          · by_cases u2 : M < 0
            · rw [if_pos (by omega)] at hER
              have HR := Lib.hid hER
              clear hER
              go_wp2_with fail
              go_meet
              exact ⟨by rw [HT.out, HR.out]; rfl, rfl⟩
            · by_cases u3 : (n : Int) * 128 < P
              · rw [if_pos (by omega)] at hER
                have HR := Lib.hid hER
                clear hER
                go_wp2_with fail
                go_meet
                exact ⟨by rw [HT.out, HR.out]; rfl, rfl⟩
              · by_cases u4 : (n : Int) * 128 - P < M
                · rw [if_pos (by omega)] at hER
                  have HR := Lib.hid hER
                  clear hER
                  go_wp2_with fail
                  go_meet
                  exact ⟨by rw [HT.out, HR.out]; rfl, rfl⟩
                · rw [if_neg (by omega)] at hER
                  have HR := Lib.hid hER
                  clear hER
                  go_wp2_with fail
                  go_meet
                  exact ⟨by rw [HT.out, HR.out]; rfl, rfl⟩
        · have t2 : (EF == 0) = false := by simp [t]
          have HT := Lib.hid t
          clear t hER
          go_wp2_with fail
          go_meet
          exact ⟨by rw [decide_eq_false (fun h => HT.out h.1)], rfl⟩
      obtain ⟨rfl, rfl⟩ := hcut
      go_upto_if 99 with fail
      go_cut [25] from 78 to 99 (fun u wx => u = .int .i64 ER ∧ w11 = wx)
      case first =>
        by_cases t : EF = 0 ∧ ER ≠ 0
        · rw [decide_eq_true t]
          have t3 : ER = 3 := by
            have := HER.out
            unfold readErr at this
            rw [← HEF.out, if_pos t.1] at this
            split at this
            · exact this
            · exact absurd this t.2
          have HT := Lib.hid t3
          clear t t3
          go_wp2_with fail
          go_meet
          exact ⟨by rw [HT.out], rfl⟩
        · rw [decide_eq_false t]
          have t3 : EF = ER := by
            by_cases t0 : EF = 0
            · by_cases t1 : ER = 0
              · rw [t0, t1]
              · exact absurd ⟨t0, t1⟩ t
            · have := HER.out
              unfold readErr at this
              rw [← HEF.out, if_neg t0] at this
              exact this.symm
          have HT := Lib.hid t3
          clear t t3
          go_wp2_with fail
          go_meet
          exact ⟨by rw [HT.out], rfl⟩
      obtain ⟨rfl, rfl⟩ := hcut
      go_upto_region 14 with fail
      have HS14 := Lib.hid (St3.start w11)
      obtain ⟨w14, hw14⟩ : ∃ x, x = (((w11.alloc (.cells #[.slice none 0 0] 24)).alloc (.cells #[.slice none 0 0] 24)).alloc (.cells #[.slice none 0 0] 24)) := ⟨_, rfl⟩
      rw [← hw14] at HS14 ⊢
      clear hw14
      go_upto_if 101 with fail
      go_cut [29] from 100 to 103 (fun p wx => p = .pointer (some ⟨w11.heap.size, 0, none⟩) ∧ St3 w11 wx (resIf EN (List.replicate N.toNat blank)) [] [])
      case first =>
        by_cases t : EN = 0
        · rw [show (EN == 0) = true by simp [t]]
          have HT := Lib.hid t
          have h32 : 1 ≤ N ∧ N ≤ 32 := by
            have := HEN.out
            unfold newErr at this
            split at this
            · next h => exact h
            · exact absurd (this.symm.trans t) (by decide)
          obtain ⟨k, rfl⟩ : ∃ k : Nat, N = k := ⟨N.toNat, by omega⟩
          have cK := Lib.hid (fun W => NewFlash_any k W (by omega))
          obtain ⟨x14, hx14, hf14⟩ := HS14.out.1.cell
          clear t
          go_wp2_with (
            go_at_call 17
            refine (cK.out _).mono ?_
            rintro e w15 ⟨hb15, A15, c15, rfl, hc15, ho15⟩
            have HS15 := Lib.hid (HS14.out.below hb15)
            have HO15 := Lib.hid (ho15.more HS14.out.2.2.2.size)
            obtain ⟨x15, hx15, hf15⟩ := HS15.out.1.cell
            clear hb15 ho15)
          go_meet
          exact ⟨rfl, by rw [resIf_zero HT.out, Int.toNat_natCast]; exact HS15.out.set1 (by rw [List.length_replicate]) hc15 HO15.out⟩
        · rw [show (EN == 0) = false by simp [t]]
          have HT := Lib.hid t
          clear t
          go_wp2_with fail
          go_meet
          exact ⟨rfl, by rw [resIf_ne HT.out]; exact HS14.out⟩
      obtain ⟨rfl, hS15⟩ := hcut
      obtain ⟨w15, rfl⟩ : ∃ W : World, W = wc := ⟨_, rfl⟩
      have f15 := (hS15.2.2.2.cell (p := ⟨w.heap.size, 0, none⟩) (cell_lt' f11)).trans f11
      have HS15 := Lib.hid hS15
      clear hS15 HS14
      go_upto_if 105 with fail
      go_cut [32] from 104 to 112 (fun p wx => p = .string SR ∧ St3 w11 wx (resIf EN (List.replicate N.toNat blank)) [] [])
      case first =>
        by_cases t : ER = 0
        · rw [show (ER == 0) = true by simp [t]]
          have hER := HER.out
          unfold readErr at hER
          rw [← HEF.out, ← HN.out] at hER
          have tF : EF = 0 := by
            by_cases h : EF = 0
            · exact h
            · rw [if_neg h] at hER; rw [← hER]; exact t
          rw [if_pos tF] at hER
          have HFZ := Lib.hid (HEF.out.symm.trans tF)
          obtain ⟨q1, q2, q3, q4⟩ : 0 ≤ P ∧ 0 ≤ M ∧ P ≤ 128 * (n : Int) ∧ M ≤ 128 * (n : Int) - P := by
            by_cases h : P < 0 ∨ M < 0 ∨ 128 * (n : Int) < P ∨ 128 * (n : Int) - P < M
            · rw [if_pos h] at hER; omega
            · omega
          have cA := AllOf_any f w15 (H.out.below (HB11.out.trans (HS15.out.2.2.2.mono HB11.out.size))) HFZ.out
          obtain ⟨T, hT⟩ : ∃ T, T = ofBytes (flat f.bl) := ⟨_, rfl⟩
          have hTz : T.size = 128 * n := by rw [hT, ofBytes_size, flat_length' (flErr_ok.1 HFZ.out).2, HN.out]
          have HS := Lib.hid (show T.extract P.toNat (P + M).toNat = SR by
            rw [HSR.out]; unfold readStr
            rw [if_pos (by rw [← HER.out]; exact t), hT, show (P + M).toNat = P.toNat + M.toNat by omega, extract_of])
          rw [← hT] at cA
          unfold Fl.v at cA
          rw [← HN.out] at cA
          have hn32 : n ≤ 32 := by rw [HN.out]; exact (flErr_ok.1 HFZ.out).1.2
          have CA := Lib.hid cA
          clear t hER tF cA hT
          go_wp2_with (go_at_call 18; refine (CA.out).mono ?_; rintro e w16 ⟨rfl, hb16⟩)
          go_meet
          exact ⟨by rw [← HS.out], HS15.out.below hb16⟩
        · rw [show (ER == 0) = false by simp [t]]
          have HX := Lib.hid (show SR = ⟨#[]⟩ by rw [HSR.out]; unfold readStr; rw [if_neg (by rw [← HER.out]; exact t)])
          clear t
          go_wp2_with fail
          go_meet
          exact ⟨by rw [HX.out], HS15.out⟩
      obtain ⟨rfl, hS16⟩ := hcut
      obtain ⟨w16, rfl⟩ : ∃ W : World, W = wc := ⟨_, rfl⟩
      have f16 := (hS16.2.2.2.cell (p := ⟨w.heap.size, 0, none⟩) (cell_lt' f11)).trans f11
      have HS16 := Lib.hid hS16
      clear hS16 HS15 f15
      go_upto_if 114 with fail
      go_cut [30] from 113 to 117 (fun p wx => p = .pointer (some ⟨w11.heap.size + 1, 0, none⟩) ∧ St3 w11 wx (resIf EN (List.replicate N.toNat blank)) (resIf ED (doneL f.bl l)) [])
      case first =>
        by_cases t : ED = 0
        · rw [show (ED == 0) = true by simp [t]]
          obtain ⟨e1, e2⟩ := dedsErr_ok.1 (HED.out.symm.trans t)
          have hW16 := HB11.out.trans (HS16.out.2.2.2.mono HB11.out.size)
          have cX := DoneOf_any f lA lc l w16 (H.out.below hW16) e1 e2 (HL.out.below hW16)
          unfold Fl.v at cX
          have HLn := Lib.hid (show n = (doneL f.bl l).length by rw [(doneL_ok e1 e2).2, HN.out])
          rw [← HN.out] at cX
          have CX := Lib.hid cX
          have HT := Lib.hid t
          obtain ⟨x16, hx16, hf16⟩ := HS16.out.2.1.cell
          clear t e1 e2 hW16 cX
          go_wp2_with (
            go_at_call 19
            refine (CX.out).mono ?_
            rintro e w17 ⟨hb17, A17, c17, rfl, hc17, ho17⟩
            have HS17 := Lib.hid (HS16.out.below hb17)
            have HO17 := Lib.hid (ho17.more HS16.out.2.2.2.size)
            obtain ⟨x17, hx17, hf17⟩ := HS17.out.2.1.cell
            clear hb17 ho17)
          go_meet
          exact ⟨rfl, by rw [resIf_zero HT.out]; exact HS17.out.set2 HLn.out hc17 HO17.out⟩
        · rw [show (ED == 0) = false by simp [t]]
          have HT := Lib.hid t
          clear t
          go_wp2_with fail
          go_meet
          exact ⟨rfl, by rw [resIf_ne HT.out]; exact HS16.out⟩
      obtain ⟨rfl, hS17⟩ := hcut
      obtain ⟨w17, rfl⟩ : ∃ W : World, W = wc := ⟨_, rfl⟩
      have f17 := (hS17.2.2.2.cell (p := ⟨w.heap.size, 0, none⟩) (cell_lt' f11)).trans f11
      have y17 := (hS17.2.2.2.cell (p := ⟨w1.heap.size, 0, none⟩) (cell_lt' y0)).trans y0
      have z17 := (hS17.2.2.2.cell (p := ⟨w1.heap.size, 1, none⟩) (cell_lt' y1)).trans y1
      have t17 := (hS17.2.2.2.cell (p := ⟨w1.heap.size, 2, none⟩) (cell_lt' y2)).trans y2
      have HS17 := Lib.hid hS17
      clear hS17 HS16 f16
      go_upto_if 119 with fail
      go_cut [31] from 118 to 123 (fun p wx => p = .pointer (some ⟨w11.heap.size + 1 + 1, 0, none⟩) ∧ St3 w11 wx (resIf EN (List.replicate N.toNat blank)) (resIf ED (doneL f.bl l)) (resIf ET (tornL f.bl d (bytesOf s))))
      case first =>
        by_cases t : ET = 0
        · rw [show (ET == 0) = true by simp [t]]
          obtain ⟨e1, e2⟩ := dedsErr_ok.1 (HET.out.symm.trans t)
          have hd0 := e2 d (List.mem_singleton.2 rfl)
          have hW17 := HB11.out.trans (HS17.out.2.2.2.mono HB11.out.size)
          have cX := TornOf_any f d s w17 (H.out.below hW17) e1 hd0 (by unfold big; exact hs)
          unfold Fl.v Ded.v at cX
          have HLn := Lib.hid (show n = (tornL f.bl d (bytesOf s)).length by rw [show (tornL f.bl d (bytesOf s)).length = f.bl.length from turned_length .., HN.out])
          rw [← HN.out] at cX
          have CX := Lib.hid cX
          have HT := Lib.hid t
          obtain ⟨x17, hx17, hf17⟩ := HS17.out.2.2.1.cell
          clear t e1 e2 hW17 cX hd0
          go_wp2_with (
            go_at_call 20
            refine (CX.out).mono ?_
            rintro e w18 ⟨hb18, A18, c18, rfl, hc18, ho18⟩
            have HS18 := Lib.hid (HS17.out.below hb18)
            have HO18 := Lib.hid (ho18.more HS17.out.2.2.2.size)
            obtain ⟨x18, hx18, hf18⟩ := HS18.out.2.2.1.cell
            clear hb18 ho18)
          go_meet
          exact ⟨rfl, by rw [resIf_zero HT.out]; exact HS18.out.set3 HLn.out hc18 HO18.out⟩
        · rw [show (ET == 0) = false by simp [t]]
          have HT := Lib.hid t
          clear t
          go_wp2_with fail
          go_meet
          exact ⟨rfl, by rw [resIf_ne HT.out]; exact HS17.out⟩
      obtain ⟨rfl, hS18⟩ := hcut
      obtain ⟨w18, rfl⟩ : ∃ W : World, W = wc := ⟨_, rfl⟩
      obtain ⟨h1, h2, h3, hb18⟩ := hS18
      have f18 := (hb18.cell (p := ⟨w.heap.size, 0, none⟩) (cell_lt' f11)).trans f11
      have a18 := (hb18.cell (p := ⟨w3.heap.size, 0, none⟩) (cell_lt' a11)).trans a11
      have b18 := (hb18.cell (p := ⟨w6.heap.size, 0, none⟩) (cell_lt' b11)).trans b11
      have c18 := (hb18.cell (p := ⟨w8.heap.size, 0, none⟩) (cell_lt' c11)).trans c11
      obtain ⟨x, hx, hxo, hxb⟩ := h1.open_ (fun e => new_ok (HEN.out.symm.trans e))
      obtain ⟨y, hy, hyo, hyb⟩ := h2.open_ (fun e => deds_fl (HED.out.symm.trans e))
      obtain ⟨z, hz, hzo, hzb⟩ := h3.open_ (fun e => torn_fl _ (HET.out.symm.trans e))
      have HW18 := Lib.hid (HB11.out.trans (hb18.mono HB11.out.size))
      have cB := Lib.hid (fun W => flashBegun_any W)
      have cK := Lib.hid (fun W (hW : Below w18.heap.size w18 W) => cC.out W (HW18.out.trans (hW.mono HW18.out.size)))
      have cK2 := cK.out
      unfold Fl.v at cK2
      rw [← HN.out] at cK2
      have cK := Lib.hid cK2
      have c1 := Lib.hid (fun W (hW : Below w18.heap.size w18 W) => flashIs_true a x EN W ((HA11.out.below hb18).below hW) (hxo.below hW) (by rw [HAX.out, hxb]; exact resIf_resIf _ _))
      have c2 := Lib.hid (fun W (hW : Below w18.heap.size w18 W) => flashIs_true b y ED W ((HO11.out.below hb18).below hW) (hyo.below hW) (by rw [HBX.out, hyb]; exact resIf_resIf _ _))
      have c3 := Lib.hid (fun W (hW : Below w18.heap.size w18 W) => flashIs_true c z ET W ((HC11.out.below hb18).below hW) (hzo.below hW) (by rw [HCX.out, hzb]; exact resIf_resIf _ _))
      clear h1 h2 h3 hb18 HS17 f17 y17 z17 t17 f11 y0 y1 y2 a11 b11 c11 hxo hxb hyo hyb hzo hzb cK2 cC
      go_wp2_with (first
        | (go_at_call 9; refine (cB.out _).mono ?_; rintro e w19 ⟨rfl, hb19⟩
           have f19 := (hb19.cell (p := ⟨w.heap.size, 0, none⟩) (cell_lt' f18)).trans f18
           have HB19 := Lib.hid hb19
           clear hb19)
        | (go_at_call 21; refine (cK.out _ HB19.out).mono ?_; rintro e w20 ⟨rfl, hb20⟩
           have HB20 := Lib.hid (HB19.out.trans (hb20.mono HB19.out.size))
           have a20 := (HB20.out.cell (p := ⟨w3.heap.size, 0, none⟩) (cell_lt' a18)).trans a18
           have x20 := (HB20.out.cell (p := ⟨w11.heap.size, 0, none⟩) (cell_lt' hx)).trans hx
           clear hb20)
        | (go_at_call 22; with_reducible refine (c1.out _ HB20.out).mono ?_; rintro e w21 ⟨rfl, hb21⟩
           have HB21 := Lib.hid (HB20.out.trans (hb21.mono HB20.out.size))
           have b21 := (HB21.out.cell (p := ⟨w6.heap.size, 0, none⟩) (cell_lt' b18)).trans b18
           have y21 := (HB21.out.cell (p := ⟨w11.heap.size + 1, 0, none⟩) (cell_lt' hy)).trans hy
           clear hb21)
        | (go_at_call 22; with_reducible refine (c2.out _ HB21.out).mono ?_; rintro e w22 ⟨rfl, hb22⟩
           have HB22 := Lib.hid (HB21.out.trans (hb22.mono HB21.out.size))
           have c22 := (HB22.out.cell (p := ⟨w8.heap.size, 0, none⟩) (cell_lt' c18)).trans c18
           have z22 := (HB22.out.cell (p := ⟨w11.heap.size + 1 + 1, 0, none⟩) (cell_lt' hz)).trans hz
           clear hb22)
        | (go_at_call 22; with_reducible refine (c3.out _ HB22.out).mono ?_; rintro e w23 ⟨rfl, hb23⟩))
      go_ret
      exact ⟨by first | rfl | simp, HW18.out.trans ((HB22.out.trans (hb23.mono HB22.out.size)).mono HW18.out.size)⟩

set_option maxRecDepth 100000 in
theorem flashTells_lifted (os : Os) (started : os.Started) (H : Type) (enc : TypeId × Value → H) :
    ReturnsInHanded {} Try.checked os 4 .any (Rows.flashTellsSpec.pre6 enc Try.prog Try.f4 Rows.flashTellsRow.domain false) (Rows.flashTellsSpec.post enc Try.prog Try.f4 false true false false) := by
  refine returnsInHanded_of_change_sized (C := Try.checked) Try.own started (by kernel_rfl) Try.func4
    (ChangeSpec.witness6 (enc := enc) (C := Try.checked) false ⟨#[], #[.int .i64 0, .agg #[.slice none 0 0], .int .i64 0, .int .i64 0, .slice none 0 0, .agg #[.int .i64 0, .int .i64 0, .int .i64 0], .string ⟨#[]⟩], []⟩ 8 (by kernel_rfl) (by kernel_rfl) (by kernel_rfl) (by kernel_rfl)) ?_
  intro W base args ds gs before hval0 hW hcnd hsz0 _
  have hval : ∀ (j : Nat) t v, Try.f4.params[j]? = some t → args[j]? = some v → Value.okWide Try.prog W .any base t v := hval0
  have hsz : (DataW.weightsEach Try.prog (Try.f4.params.toList ++ Rows.flashTellsSpec.plain.varTypes Try.prog) (ds ++ gs)).all (· ≤ reachBytes) = true := hsz0
  have hW' := hW
  obtain ⟨p, q, hA0, hV, rfl, hfz, hnd⟩ := hW
  have hA : DataW.TrodAll enc Try.prog W 0 (fun _ => true) true Try.f4.params.toList args.toList ds p := hA0
  rw [Try.params4] at hA hval hsz
  obtain ⟨v0, vs0, d0, ds0, p0, q0, hargs, rfl, rfl, h0, r0⟩ := trodAll_cons hA
  obtain ⟨v1, vs1, d1, ds1, p1, q1, rfl, rfl, rfl, h1, r1⟩ := trodAll_cons r0
  obtain ⟨v2, vs2, d2, ds2, p2, q2, rfl, rfl, rfl, h2, r2⟩ := trodAll_cons r1
  obtain ⟨v3, vs3, d3, ds3, p3, q3, rfl, rfl, rfl, h3, r3⟩ := trodAll_cons r2
  obtain ⟨v4, vs4, d4, ds4, p4, q4, rfl, rfl, rfl, h4, r4⟩ := trodAll_cons r3
  obtain ⟨v5, vs5, d5, ds5, p5, q5, rfl, rfl, rfl, h5, r5⟩ := trodAll_cons r4
  obtain ⟨v6, vs6, d6, ds6, p6, q6, rfl, rfl, rfl, h6, r6⟩ := trodAll_cons r5
  obtain ⟨rfl, rfl, rfl⟩ := trodAll_nil r6
  obtain rfl : args = #[v0, v1, v2, v3, v4, v5, v6] := by cases args; simp_all
  obtain ⟨rfl, rfl⟩ := trodVars_none hV
  obtain ⟨N, rfl, rfl, rfl, w0⟩ := open_int Try.underlying3 (hval 0 3 v0 rfl rfl) h0
  have ft1 := fits_each hsz (j := 1) rfl rfl
  obtain ⟨f, rfl, ok1⟩ := open_Flash (hval 1 24 v1 rfl rfl) h1 ft1
  obtain ⟨P, rfl, rfl, rfl, w2⟩ := open_int Try.underlying3 (hval 2 3 v2 rfl rfl) h2
  obtain ⟨M, rfl, rfl, rfl, w3⟩ := open_int Try.underlying3 (hval 3 3 v3 rfl rfl) h3
  have ft4 := fits_each hsz (j := 4) rfl rfl
  obtain ⟨lA, l, lc, rfl, ok4⟩ := open_Deeds (hval 4 25 v4 rfl rfl) h4 ft4
  have ft5 := fits_each hsz (j := 5) rfl rfl
  obtain ⟨d, rfl, ok5⟩ := open_Deed (hval 5 32 v5 rfl rfl) h5 ft5
  obtain ⟨s, rfl, rfl, rfl, w6⟩ := open_string Try.underlying9 (hval 6 9 v6 rfl rfl) h6
  have z6 : s.size ≤ 140737488351232 := by have := sized_string hsz (j := 6) (t := 9) rfl rfl; simpa [reachBytes] using this
  refine (FlashTells_any N f P M lA l lc d s W ok1 (wf_i64 w2) (wf_i64 w3) ok4 ok5 z6).mono fun e W' ⟨he, hb⟩ => ?_
  subst he
  exact ⟨_, rfl, law_post Try.laidOut hW' rfl (by decide +kernel) rfl Try.underlying4 rfl rfl rfl hb⟩

theorem flashTells_holds : Rows.FlashTellsSaid :=
  OpenClaim.holds_of_wide 4 Try.f4 rfl rfl rfl rfl rfl rfl rfl ⟨rfl, rfl, rfl, rfl, rfl⟩ rfl rfl rfl rfl rfl (by kernel_rfl) Try.func4 (by kernel_rfl)
    (of_decide_eq_true (by kernel_rfl)) (by unfold Func.isWrapper; first | (rw [if_pos (by decide +kernel)]; kernel_rfl) | (rw [if_neg (by decide +kernel)]; exact ⟨rfl, rfl⟩))
    (fun os started H enc _ => flashTells_lifted os started H enc)
#print axioms flashTells_holds

end Go.Proofs.Ytpmjgkngkaleeaa
