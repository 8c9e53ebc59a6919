import Derived.Test.YtpmjgkngkaleeaaRDeedW
import Derived.Test.YtpmjgkngkaleeaaAppAny
/- The document's DoneOf (chapter K): deeds done to a copy of a flash. -/
namespace Go.Proofs.Ytpmjgkngkaleeaa
open Go.RowKit

/-- texts copied onto an empty row: 'append([]string{}, l...)' -/
theorem append_texts (W : World) {ops : Array Oper} {rest : List Oper} {o : Oper} {a : Act} {Q : Exit → Act → World → Prop} (hgd : o.guard = none) (s x : Operand)
    (ho : o.op = .call { callee := .builtin .append, args := #[s, x], argTypes := #[22, 22] }) (base : Nat) (v : Value) (l0 : List ByteArray) (hs : a.eval s = v) (hown : TOwn W base v l0)
    (A : Option Addr) (c : Nat) (l1 : List ByteArray) (hx : a.eval x = .slice A l1.length c) (hr : Row strCells 1 W A l1) (hlen : l0.length + l1.length ≤ 1000000) (hbase : base ≤ W.heap.size)
    (h : ∀ v' w', TOwn w' base v' (l0 ++ l1) → Below base W w' → W.grownBy w' v.ownBlock → wpList Try.prog ops Q rest (a.put o.dst v') w') : wpList Try.prog ops Q (o :: rest) a W := by
  obtain ⟨i0, hi, hz0, hz1, hz2⟩ := info_parts Try.infoStr
  refine wpList_append_any W hgd s x 22 ho base 9 i0 (.string ⟨#[]⟩) 1 16 Try.underlying22 hi hz0 hz1 hz2 rfl (by decide) v l0.length (l0.map Value.string) hs hown W.heap.size A l1.length c (l1.flatMap strCells) hx hr
    (fun u hu => by rw [← map_str] at hu; obtain ⟨y, _, rfl⟩ := List.mem_map.1 hu; rfl) (by simp only [maxLen]; omega) (by omega) hbase ?_
  intro v' w' h1 h2 _
  refine h v' w' ?_ ((Below.refl base W).grown h2 hbase (own_base hown)) h2
  unfold TOwn
  rw [List.length_append, List.map_append, map_str l1]; exact h1
theorem TOwn.empty (w : World) (base : Nat) (hb : base ≤ w.heap.size) : TOwn (w.alloc (.cells #[] 9)) base (.slice (some ⟨w.heap.size, 0, none⟩) 0 0) [] := World.ownsRow_made w #[] 0 hb (Nat.zero_le _) rfl

theorem done_take {f : List ByteArray} {l : List Ded} {j : Nat} (h : j < l.length) (hf : flErr f = 0) (hd : ∀ d ∈ l, dedErr f.length d = 0) :
    doneL f (l.take (j + 1)) = (doneL f (l.take j)).set (deedPos l[j]) (ofBytes (deedNew (doneL f (l.take j)) l[j])) := by
  obtain ⟨h1, h2⟩ := doneL_ok (l := l.take j) hf fun d hd' => hd d (List.mem_of_mem_take hd')
  rw [doneL_take h, ← doneRef_eq]
  exact done_ref h1 (by rw [h2]; exact hd _ (List.getElem_mem h))
theorem deedPos_lt {n : Nat} {d : Ded} (h : dedErr n d = 0) : deedPos d < n := by
  unfold deedPos
  rcases ded_place h with ⟨hk, hn, _⟩ | ⟨hk, hn, _⟩
  · rw [if_neg (by omega)]; exact hn
  · rw [if_pos hk]; exact hn
theorem deedNew_len {f : List ByteArray} {d : Ded} (hf : flErr f = 0) (hd : dedErr f.length d = 0) : (deedNew f d).length = 128 := by
  obtain ⟨_, h2⟩ := flErr_ok.1 hf
  unfold deedNew
  rcases ded_place hd with ⟨hk, hn, _⟩ | ⟨hk, hn, _⟩
  · rw [if_neg (by omega), List.length_set, bytes_length]; exact h2 _ (getD_mem hn)
  · rw [if_pos hk]; rfl

set_option maxHeartbeats 4000000 in
set_option maxRecDepth 100000 in
theorem DoneOf_any (f : Fl) (A : Option Addr) (c : Nat) (l : List Ded) (w : World) (h : f.ok w) (hf : flErr f.bl = 0) (hd : ∀ d ∈ l, dedErr f.bl.length d = 0) (hl : DedsOk w A l) :
    Calls Try.prog 19 #[f.v, .slice A l.length c] w fun e w' => Below w.heap.size w w' ∧ ∃ (A' : Option Addr) (c' : Nat), e = .returned (.agg #[.slice A' f.bl.length c']) ∧ f.bl.length ≤ c' ∧ TOwn w' w.heap.size (.slice A' f.bl.length c') (doneL f.bl l) := by
  have hln := (flErr_ok.1 hf).1
  obtain ⟨w1, hw1⟩ : ∃ w1, w1 = w.alloc (.cells #[.slice f.a f.bl.length f.c] 24) := ⟨_, rfl⟩
  obtain ⟨f0, hz1, hb1⟩ := box1 hw1
  obtain ⟨w2, hw2⟩ : ∃ w2, w2 = w1.alloc (.cells #[.slice none 0 0] 24) := ⟨_, rfl⟩
  obtain ⟨_, hR, hz2, hb2⟩ := box_new hw2
  have k0 := (hb2.cell (p := ⟨w.heap.size, 0, none⟩) (by simp; omega)).trans f0
  obtain ⟨w3, hw3⟩ : ∃ w3, w3 = w2.alloc (.cells #[] 9) := ⟨_, rfl⟩
  have hb3 : Below w2.heap.size w2 w3 := hw3 ▸ (Below.refl _ _).alloc (Nat.le_refl _) _
  have hz3 : w3.heap.size = w2.heap.size + 1 := by rw [hw3]; simp
  have hO3 : TOwn w3 w2.heap.size (.slice (some ⟨w2.heap.size, 0, none⟩) 0 0) [] := hw3 ▸ TOwn.empty w2 w2.heap.size (Nat.le_refl _)
  have k3 := (hb3.cell (p := ⟨w.heap.size, 0, none⟩) (by simp; omega)).trans k0
  have HB2 := Lib.hid (hb1.trans (hb2.mono (by omega)))
  have HB3 := Lib.hid (HB2.out.trans (hb3.mono (by omega)))
  have hR3 := Lib.hid (h.row.below HB3.out).row
  have HO3 := Lib.hid hO3
  have hw1' := hw1.symm
  have hw2' := hw2.symm
  have hw3' := hw3.symm
  have HR := Lib.hid hR
  have HZ := Lib.hid (show w1.heap.size = w.heap.size + 1 ∧ w2.heap.size = w.heap.size + 2 ∧ w3.heap.size = w.heap.size + 3 by omega)
  have HF := Lib.hid hf
  have HD := Lib.hid hd
  have HROW := Lib.hid hl.row
  have HLen := Lib.hid (show ([] : List ByteArray).length + f.bl.length ≤ 1000000 by simp only [List.length_nil]; omega)
  have HBB := Lib.hid hb3
  have hl63 := hl.len
  unfold big at hl63
  have hO3' := HO3.out
  unfold Fl.v
  clear hw1 hw2 hw3 hb1 hb2 hb3 f0 k0 hR hz2 hf hd hl h hz1 hz3 hO3 hO3'
  go_enter Try.func19, Try.ntmps19
  go_wp2_with (at_builtin; refine append_texts w3 rfl (.tmp 9) (.tmp 11) rfl w2.heap.size (.slice (some ⟨w2.heap.size, 0, none⟩) 0 0) [] rfl HO3.out f.a f.c f.bl rfl hR3.out HLen.out HBB.out.size ?_; intro v4 w4 ho4 hb4 _; obtain ⟨A4, c4, rfl, hr4, hc4⟩ := ho4.form; have HO4 := Lib.hid ho4; have HB4 := Lib.hid hb4; clear ho4 hb4 hr4)
  obtain ⟨w5, hw5⟩ : ∃ x, x = w4.alloc (.cells #[.slice A4 f.bl.length c4] 24) := ⟨_, rfl⟩
  obtain ⟨_, hY5, hz5, hb5⟩ := box_new hw5
  rw [← hw5]
  rw [List.nil_append] at HO4 hc4
  have HY5 := Lib.hid hY5
  have HB5 := Lib.hid (HBB.out.trans ((HB4.out.trans (hb5.mono (by have := HB4.out.size; have := HZ.out; omega))).mono (Nat.le_refl _)))
  have HO5 := Lib.hid (HO4.out.below hb5 (Nat.le_refl _))
  have HZ4 := Lib.hid (show w2.heap.size < w4.heap.size by have := HB4.out.size; have := HZ.out; omega)
  obtain ⟨n, hn⟩ : ∃ n, n = f.bl.length := ⟨_, rfl⟩
  rw [← hn] at hc4 HO5 HY5 hln HD ⊢
  have HN := Lib.hid hn
  clear hw5 hY5 hz5 hb5 hw3' k3 hn
  go_loopw [6] (fun i wr => ∃ (j : Nat) (A' : Option Addr) (c' : Nat), j ≤ l.length ∧ i = .int .i64 j ∧ wr.heap[w4.heap.size]? = some (.cells #[.slice A' n c'] 24 (0, 0)) ∧ n ≤ c' ∧ TOwn wr w2.heap.size (.slice A' n c') (doneL f.bl (l.take j)) ∧ Below w2.heap.size w2 wr) (fun i _ => l.length - (intOf i).toNat)
  case atStart => exact ⟨0, A4, c4, by omega, rfl, HY5.out, hc4, HO5.out, HB5.out⟩
  case round =>
    obtain ⟨j, A', c', hj, rfl, hY, hc', hO, hb⟩ := hrel
    have y0 := cell_of_heap hY 0
    have yf := free_of_heap hY 0
    simp only [List.getElem?_toArray, List.getElem?_cons_zero] at y0
    have HY := Lib.hid hY
    have HO := Lib.hid hO
    have HB := Lib.hid hb
    have HX := Lib.hid (HB2.out.trans (hb.mono HB2.out.size))
    by_cases hlt : j < l.length
    · have hlt' : (j : Int) < l.length := by omega
      obtain ⟨ad, rfl, hab, h0, h1, h2⟩ := ded_at HROW.out HX.out j hlt
      have hOl : w4.heap.size < wr.heap.size := (Array.getElem?_eq_some_iff.1 hY).1
      have hdn : ∀ d ∈ l.take j, dedErr f.bl.length d = 0 := fun d hd => by rw [← HN.out]; exact HD.out d (List.mem_of_mem_take hd)
      obtain ⟨hfj, hnj⟩ := doneL_ok HF.out hdn
      have hdj : dedErr f.bl.length (l[j]'hlt) = 0 := by rw [← HN.out]; exact HD.out _ (List.getElem_mem hlt)
      have HT := Lib.hid (done_take hlt HF.out (by rw [← HN.out]; exact HD.out))
      have cD := Lib.hid (fun W (hW : Below wr.heap.size wr W) => deedBytes_any A' c' (doneL f.bl (l.take j)) (l[j]'hlt) W ((hO.texts hfj).below hW) hfj (by rw [hnj]; exact hdj))
      rw [hnj, ← HN.out] at cD
      have hpl := deedPos_lt hdj
      rw [← HN.out] at hpl
      have hdl := deedNew_len hfj (by rw [hnj]; exact hdj)
      obtain ⟨q, hq⟩ : ∃ q, q = deedPos (l[j]'hlt) := ⟨_, rfl⟩
      obtain ⟨X, hX⟩ : ∃ X, X = deedNew (doneL f.bl (l.take j)) (l[j]'hlt) := ⟨_, rfl⟩
      have HT' := HT.out
      rw [← hq, ← hX] at HT'
      rw [← hq, ← hX] at cD
      rw [← hq] at hpl
      rw [← hX] at hdl
      have hpl' : (q : Int) < n := by omega
      have HT2 := Lib.hid HT'
      have hbm : (ad.add (j * 3)).block < wr.heap.size := by rw [block_of_add]; have := HX.out.size; omega
      have HDL := Lib.hid hdl
      have HZR := Lib.hid hb.size
      obtain ⟨D, hD⟩ : ∃ D, D = l[j]'hlt := ⟨_, rfl⟩
      rw [← hD] at h0 h1 h2 cD
      clear HT HT' hY hO hb hdn hfj hnj hdj hq hX hdl hD
      have HC0 := Lib.hid (show Below wr.heap.size wr wr ∧ wr.cell? ⟨w4.heap.size, 0, none⟩ = some (.slice A' n c') ∧ wr.cell? (ad.add (j * 3)) = some (.int .i64 D.kind) ∧ wr.cell? ⟨(ad.add (j * 3)).block, (ad.add (j * 3)).off + 1, none⟩ = some (.int .i64 D.at_) ∧ wr.cell? ⟨(ad.add (j * 3)).block, (ad.add (j * 3)).off + 2, none⟩ = some (.int .i64 D.value) from ⟨Below.refl _ _, by assumption, by assumption, by assumption, by assumption⟩)
      have HCD := Lib.hid (show ∀ W' : World, (Below wr.heap.size wr W' ∧ W'.cell? ⟨w4.heap.size, 0, none⟩ = some (.slice A' n c') ∧ W'.cell? (ad.add (j * 3)) = some (.int .i64 D.kind) ∧ W'.cell? ⟨(ad.add (j * 3)).block, (ad.add (j * 3)).off + 1, none⟩ = some (.int .i64 D.at_) ∧ W'.cell? ⟨(ad.add (j * 3)).block, (ad.add (j * 3)).off + 2, none⟩ = some (.int .i64 D.value)) → (Below wr.heap.size wr W'.drew ∧ W'.drew.cell? ⟨w4.heap.size, 0, none⟩ = some (.slice A' n c') ∧ W'.drew.cell? (ad.add (j * 3)) = some (.int .i64 D.kind) ∧ W'.drew.cell? ⟨(ad.add (j * 3)).block, (ad.add (j * 3)).off + 1, none⟩ = some (.int .i64 D.at_) ∧ W'.drew.cell? ⟨(ad.add (j * 3)).block, (ad.add (j * 3)).off + 2, none⟩ = some (.int .i64 D.value)) from fun W' ⟨b, a0, a1, a2, a3⟩ => ⟨b.drew, a0, a1, a2, a3⟩)
      have HCS := Lib.hid (show ∀ W' W2 : World, (Below wr.heap.size wr W' ∧ W'.cell? ⟨w4.heap.size, 0, none⟩ = some (.slice A' n c') ∧ W'.cell? (ad.add (j * 3)) = some (.int .i64 D.kind) ∧ W'.cell? ⟨(ad.add (j * 3)).block, (ad.add (j * 3)).off + 1, none⟩ = some (.int .i64 D.at_) ∧ W'.cell? ⟨(ad.add (j * 3)).block, (ad.add (j * 3)).off + 2, none⟩ = some (.int .i64 D.value)) → Below W'.heap.size W' W2 → (Below wr.heap.size wr W2 ∧ W2.cell? ⟨w4.heap.size, 0, none⟩ = some (.slice A' n c') ∧ W2.cell? (ad.add (j * 3)) = some (.int .i64 D.kind) ∧ W2.cell? ⟨(ad.add (j * 3)).block, (ad.add (j * 3)).off + 1, none⟩ = some (.int .i64 D.at_) ∧ W2.cell? ⟨(ad.add (j * 3)).block, (ad.add (j * 3)).off + 2, none⟩ = some (.int .i64 D.value)) from fun W' W2 ⟨b, a0, a1, a2, a3⟩ hb => have s := b.size; ⟨b.trans (hb.mono s), (hb.cell (by first | omega | (simp; omega) | (simp only [block_of_add]; omega))).trans a0, (hb.cell (by first | omega | (simp; omega) | (simp only [block_of_add]; omega))).trans a1, (hb.cell (by first | omega | (simp; omega) | (simp only [block_of_add]; omega))).trans a2, (hb.cell (by first | omega | (simp; omega) | (simp only [block_of_add]; omega))).trans a3⟩)
      have HCA := Lib.hid (show ∀ (W' : World) (o : Obj), (Below wr.heap.size wr W' ∧ W'.cell? ⟨w4.heap.size, 0, none⟩ = some (.slice A' n c') ∧ W'.cell? (ad.add (j * 3)) = some (.int .i64 D.kind) ∧ W'.cell? ⟨(ad.add (j * 3)).block, (ad.add (j * 3)).off + 1, none⟩ = some (.int .i64 D.at_) ∧ W'.cell? ⟨(ad.add (j * 3)).block, (ad.add (j * 3)).off + 2, none⟩ = some (.int .i64 D.value)) → (Below wr.heap.size wr (W'.alloc o) ∧ (W'.alloc o).cell? ⟨w4.heap.size, 0, none⟩ = some (.slice A' n c') ∧ (W'.alloc o).cell? (ad.add (j * 3)) = some (.int .i64 D.kind) ∧ (W'.alloc o).cell? ⟨(ad.add (j * 3)).block, (ad.add (j * 3)).off + 1, none⟩ = some (.int .i64 D.at_) ∧ (W'.alloc o).cell? ⟨(ad.add (j * 3)).block, (ad.add (j * 3)).off + 2, none⟩ = some (.int .i64 D.value)) from fun W' o hc => HCS.out W' (W'.alloc o) hc ((Below.refl _ _).alloc (Nat.le_refl _) o))
      have HCL := Lib.hid (show ∀ W' : World, (Below wr.heap.size wr W' ∧ W'.cell? ⟨w4.heap.size, 0, none⟩ = some (.slice A' n c') ∧ W'.cell? (ad.add (j * 3)) = some (.int .i64 D.kind) ∧ W'.cell? ⟨(ad.add (j * 3)).block, (ad.add (j * 3)).off + 1, none⟩ = some (.int .i64 D.at_) ∧ W'.cell? ⟨(ad.add (j * 3)).block, (ad.add (j * 3)).off + 2, none⟩ = some (.int .i64 D.value)) → Below wr.heap.size wr W' from fun W' hc => hc.1)
      go_wp2_with fail
      go_region_held3 (fun W' => Below wr.heap.size wr W' ∧ W'.cell? ⟨w4.heap.size, 0, none⟩ = some (.slice A' n c') ∧ W'.cell? (ad.add (j * 3)) = some (.int .i64 D.kind) ∧ W'.cell? ⟨(ad.add (j * 3)).block, (ad.add (j * 3)).off + 1, none⟩ = some (.int .i64 D.at_) ∧ W'.cell? ⟨(ad.add (j * 3)).block, (ad.add (j * 3)).off + 2, none⟩ = some (.int .i64 D.value)) (first | exact HC0.out | exact HCD.out _ HC0.out | exact HCS.out _ _ (by assumption) (by assumption) | exact HCS.out _ _ HC0.out (by assumption) | exact HCS.out _ _ (HCD.out _ HC0.out) (by assumption) | exact HCS.out _ _ (HCD.out _ (by assumption)) (by assumption) | exact HCD.out _ (by assumption) | exact HCA.out _ _ (by assumption) | exact HCA.out _ _ HC0.out | exact HCA.out _ _ (HCD.out _ HC0.out) | exact HCD.out _ (HCA.out _ _ (by assumption)) | assumption) (first | (go_at_call 38; with_reducible refine (cD.out _ (HCL.out _ (by assumption))).mono ?_; rintro e w6 ⟨hb6, g, cap, rfl, hg, hB6⟩))
      have HB6 := Lib.hid (HCL.out _ (by assumption))
      have hY6 := (HB6.out.block _ hOl).trans HY.out
      have y6 := cell_of_heap hY6 0
      have yf6 := free_of_heap hY6 0
      simp only [List.getElem?_toArray, List.getElem?_cons_zero] at y6
      have hback := str_of_bytes w6 g 128 cap X HDL.out hB6
      obtain ⟨t, ht⟩ : ∃ t, t = ofBytes X := ⟨_, rfl⟩
      rw [← ht] at hback HT2
      have HT3 := Lib.hid HT2.out
      have hO6 := HO.out.below (HB6.out.mono (Nat.le_refl _)) (Nat.le_refl _)
      obtain ⟨g', rfl, hg', hgl, hc6, hf6, hs6⟩ := hO6.at_ (by rw [(doneL_ok HF.out (fun d hd => by rw [← HN.out]; exact HD.out d (List.mem_of_mem_take hd))).2, HN.out]) q hpl
      have HS6 := Lib.hid (hs6 t)
      have HNE := Lib.hid (hO6.ne hY6 (by decide))
      have HY6 := Lib.hid hY6
      have HG := Lib.hid hg'
      clear HC0 HCD HCS HCA HCL cD hY6 hs6 hO6 hB6 hb6 hg ht HT2 hg' h0 h1 h2 y0 yf
      go_wp2_with fail
      go_roundw
      case rel =>
        refine ⟨j + 1, some ⟨g', 0, none⟩, c', by omega, by go_num, ?_, hc', ?_, ?_⟩
        · rw [Below.heap_setCell _ _ _ _ (fun e => HNE.out (by rw [e]; rfl))]; exact HY6.out
        · rw [HT3.out]; exact HS6.out
        · exact (HB.out.trans (HB6.out.mono HZR.out)).setCell (p := ⟨g', q, none⟩) HG.out _
      case measure => (simp [intOf]; try omega)
    · have HE := Lib.hid (show doneL f.bl (l.take j) = doneL f.bl l by rw [List.take_of_length_le (by omega)])
      have hRr : wr.heap[w1.heap.size]? = some (.cells #[.slice none 0 0] 24 (0, 0)) := (hb.block _ (by have := HZ.out; omega)).trans HR.out
      have v0 := cell_of_heap hRr 0
      have vf := free_of_heap hRr 0
      simp only [List.getElem?_toArray, List.getElem?_cons_zero] at v0
      have HRR := Lib.hid hRr
      clear hY hO hb hRr
      go_wp2_with fail
      have hR9 : (wr.setCell ⟨w1.heap.size, 0, none⟩ (.slice A' n c')).heap[w1.heap.size]? = some (.cells #[.slice A' n c'] 24 (0, 0)) :=
        heap_setCell_same wr w1.heap.size 0 _ _ (.slice A' n c') HRR.out
      refine bodyPost_ret (results_cell_row rfl _ _ w1.heap.size 24 _ (0, 0) _ rfl hR9 Try.underlying24 rfl Try.sizeFlash) rfl ?_
      refine ⟨HX.out.setCell (p := ⟨w1.heap.size, 0, none⟩) (by have := HZ.out; simp; try omega) _, A', c', by rw [← HN.out], by rw [← HN.out]; exact hc', ?_⟩
      rw [← HE.out, ← HN.out]
      exact (HO.out.set_other HRR.out (by decide) 0 _).more HB2.out.size

end Go.Proofs.Ytpmjgkngkaleeaa
