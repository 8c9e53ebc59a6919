import Derived.Test.YtpmjgkngkaleeaaFlTurnW
import Derived.Test.YtpmjgkngkaleeaaFlPartW
/- Deeds done to a flash, one behind the other (chapter K): flash.Done. -/
namespace Go.Proofs.Ytpmjgkngkaleeaa
open Go.RowKit

theorem TOwn.ne {w : World} {base : Nat} {v : Value} {l : List ByteArray} {O : Nat} {cs : Array Value} {t : TypeId} {fr : Nat × Nat} (h : TOwn w base v l) (hO : w.heap[O]? = some (.cells cs t fr)) (ht : t ≠ 9) : v.ownBlock ≠ some O := by
  intro hv
  rcases h.2 with ⟨rfl, _⟩ | ⟨g, cap, cur, rfl, _, e3, _⟩
  · cases hv
  · simp only [Value.ownBlock] at hv
    have : g = O := by simpa using hv
    subst this
    rw [e3] at hO
    injection hO with hO
    injection hO with _ h2 _
    exact ht h2.symm
theorem TOwn.set_other {w : World} {base : Nat} {v : Value} {l : List ByteArray} {O : Nat} {cs : Array Value} {t : TypeId} {fr : Nat × Nat} (h : TOwn w base v l) (hO : w.heap[O]? = some (.cells cs t fr)) (ht : t ≠ 9) (o : Nat) (x : Value) : TOwn (w.setCell ⟨O, o, none⟩ x) base v l :=
  ownsRow_setCell_other (a := ⟨O, o, none⟩) h (h.ne hO ht) x
theorem doneL_take {f : List ByteArray} {l : List Ded} {j : Nat} (h : j < l.length) : doneL f (l.take (j + 1)) = turned (doneL f (l.take j)) l[j] (fun _ => 255) := by
  rw [List.take_succ_eq_append_getElem h, doneL_append]; rfl
theorem TOwn.texts {w : World} {base : Nat} {A : Option Addr} {n c : Nat} {l : List ByteArray} (h : TOwn w base (.slice A n c) l) (hf : flErr l = 0) : TextsOk w A l := by
  obtain ⟨A', c', e, hr, hc⟩ := h.form
  injection e with e1 e2 e3
  subst e1
  obtain ⟨h1, h2⟩ := flErr_ok.1 hf
  exact ⟨hr, by unfold big; omega, fun s hs => by rw [h2 s hs]; decide⟩

set_option maxHeartbeats 4000000 in
set_option maxRecDepth 100000 in
theorem Done_any (f : Fl) (A : Option Addr) (c : Nat) (l : List Ded) (w : World) (h : f.ok w) (hf : flErr f.bl = 0) (hd : ∀ d ∈ l, dedErr f.bl.length d = 0) (hl : DedsOk w A l) :
    Calls Try.prog 30 #[f.v, .slice A l.length c] w fun e w' => Below w.heap.size w w' ∧ ∃ (A' : Option Addr) (c' : Nat), e = .returned (.agg #[.slice A' f.bl.length c']) ∧ f.bl.length ≤ c' ∧ TOwn w' w.heap.size (.slice A' f.bl.length c') (doneL f.bl l) := by
  have hln := (flErr_ok.1 hf).1
  obtain ⟨w1, hw1⟩ : ∃ w1, w1 = w.alloc (.cells #[.slice f.a f.bl.length f.c] 24) := ⟨_, rfl⟩
  obtain ⟨f0, hz1, hb1⟩ := box1 hw1
  obtain ⟨w2, hw2⟩ : ∃ w2, w2 = w1.alloc (.cells #[.slice none 0 0] 24) := ⟨_, rfl⟩
  obtain ⟨_, hR, hz2, hb2⟩ := box_new hw2
  have k0 := (hb2.cell (p := ⟨w.heap.size, 0, none⟩) (by simp; omega)).trans f0
  have HB2 := Lib.hid (hb1.trans (hb2.mono (by omega)))
  have cC := Lib.hid (Clone_any f.a f.bl f.c w2 (h.row.below HB2.out).row (by omega) (by omega))
  have HZ1 := Lib.hid hz1
  have hw1' := hw1.symm
  have hw2' := hw2.symm
  have HR := Lib.hid hR
  have HZ2 := Lib.hid hz2
  have HF := Lib.hid hf
  have HD := Lib.hid hd
  have HROW := Lib.hid hl.row
  have hl63 := hl.len
  unfold big at hl63
  obtain ⟨n, hn⟩ : ∃ n, n = f.bl.length := ⟨_, rfl⟩
  unfold Fl.v
  rw [← hn] at cC k0 hw1' hln HD ⊢
  have HN := Lib.hid hn
  clear hw1 hw2 hb1 hb2 f0 hR hz2 hf hd hl h hn hz1
  go_enter Try.func30, Try.ntmps30
  go_wp2_with (
    go_at_call 44
    refine (cC.out).mono ?_
    rintro e w3 ⟨hb3, A3, c3, rfl, hc3, ho⟩
    obtain ⟨w4, hw4⟩ : ∃ x, x = w3.alloc (.cells #[.slice A3 n c3] 24) := ⟨_, rfl⟩
    obtain ⟨_, hY4, hz4, hb4⟩ := box_new hw4
    have hw4' := hw4.symm
    have HB4 := Lib.hid (hb3.trans (hb4.mono hb3.size))
    have HO4 := Lib.hid (ho.below hb4 (Nat.le_refl _))
    have HY4 := Lib.hid hY4
    have HZ23 := Lib.hid hb3.size
    clear hw4 hz4 hb3 hb4 hY4 ho)
  go_loopw [14] (fun i wr => ∃ (j : Nat) (A' : Option Addr) (c' : Nat), j ≤ l.length ∧ i = .int .i64 j ∧ wr.heap[w3.heap.size]? = some (.cells #[.slice A' n c'] 24 (0, 0)) ∧ n ≤ c' ∧ TOwn wr w2.heap.size (.slice A' n c') (doneL f.bl (l.take j)) ∧ Below w2.heap.size w2 wr) (fun i _ => l.length - (intOf i).toNat)
  case atStart => exact ⟨0, A3, c3, by omega, rfl, HY4.out, hc3, HO4.out, HB4.out⟩
  case round =>
    obtain ⟨j, A', c', hj, rfl, hY, hc', hO, hb⟩ := hrel
    have y0 := cell_of_heap hY 0
    have yf := free_of_heap hY 0
    simp only [List.getElem?_toArray, List.getElem?_cons_zero] at y0
    have HY := Lib.hid hY
    have HO := Lib.hid hO
    have HB := Lib.hid hb
    have HX := Lib.hid (HB2.out.trans (hb.mono HB2.out.size))
    by_cases hlt : j < l.length
    · have hlt' : (j : Int) < l.length := by omega
      obtain ⟨ad, rfl, hab, h0, h1, h2⟩ := ded_at HROW.out HX.out j hlt
      obtain ⟨w5, hw5⟩ : ∃ x, x = wr.alloc (.cells #[.int .i64 (l[j]'hlt).kind, .int .i64 (l[j]'hlt).at_, .int .i64 (l[j]'hlt).value] 32) := ⟨_, rfl⟩
      obtain ⟨d0, d1, d2, hz5, hb5⟩ := box3 hw5
      have hOl : w3.heap.size < wr.heap.size := (Array.getElem?_eq_some_iff.1 hY).1
      have y5 := (hb5.cell (p := ⟨w3.heap.size, 0, none⟩) hOl).trans y0
      have hdn : ∀ d ∈ l.take j, dedErr f.bl.length d = 0 := fun d hd => by rw [← HN.out]; exact HD.out d (List.mem_of_mem_take hd)
      obtain ⟨hfj, hnj⟩ := doneL_ok HF.out hdn
      have HO5 := Lib.hid (hO.below hb5 (Nat.le_refl _))
      have cT := Lib.hid (turned_any A' c' (doneL f.bl (l.take j)) (l[j]'hlt).kind (l[j]'hlt).at_ (l[j]'hlt).value 45 #[] (fun _ => 255) w5 (fun _ _ => by kernel_rfl) (HO5.out.texts hfj) hfj (by rw [hnj, ← HN.out]; exact HD.out _ (List.getElem_mem hlt))
        (fun i W _ _ => by rw [Array.append_empty]; exact whole_any i W) (fun _ => by omega))
      rw [hnj, ← HN.out] at cT
      have HT := Lib.hid (doneL_take (f := f.bl) hlt)
      obtain ⟨G, hG⟩ : ∃ G, G = doneL f.bl (l.take (j + 1)) := ⟨_, rfl⟩
      have HG := Lib.hid hG
      change Hid (Calls _ _ _ _ fun e w' => _ ∧ ∃ A' c', _ ∧ _ ∧ TOwn w' _ _ (turned (doneL f.bl (l.take j)) l[j] (fun _ => 255))) at cT
      rw [← HT.out, ← hG] at cT
      have hw5' := hw5.symm
      have HY5 := Lib.hid ((hb5.block _ hOl).trans hY)
      have HB5 := Lib.hid (hb.trans (hb5.mono hb.size))
      have HOL := Lib.hid (show w3.heap.size < w5.heap.size by omega)
      have HZW := Lib.hid hb.size
      clear hw5 hY hO hb hOl hb5 hdn hfj hnj hG hz5
      go_wp2_with (
        go_at_call 34
        refine (cT.out).mono ?_
        rintro e w6 ⟨hb6, A6, c6, rfl, hc6, ho6⟩
        have hY6 := (hb6.block _ HOL.out).trans HY5.out
        have y6 := cell_of_heap hY6 0
        have yf6 := free_of_heap hY6 0
        simp only [List.getElem?_toArray, List.getElem?_cons_zero] at y6
        have HY6 := Lib.hid hY6
        have HO6 := Lib.hid ho6
        have HB6 := Lib.hid (HB5.out.trans (hb6.mono HB5.out.size))
        have HZ5 := Lib.hid HB5.out.size
        clear hY6 ho6 hb6)
      go_roundw
      case rel =>
        refine ⟨j + 1, A6, c6, by omega, by go_num, ?_, hc6, ?_, ?_⟩
        · exact heap_setCell_same w6 w3.heap.size 0 _ _ (.slice A6 n c6) HY6.out
        · rw [← HG.out]
          exact (HO6.out.set_other HY6.out (by decide) 0 _).more HZ5.out
        · exact HB6.out.setCell (p := ⟨w3.heap.size, 0, none⟩) HZ23.out _
      case measure => (simp [intOf]; try omega)
    · have HE := Lib.hid (show doneL f.bl (l.take j) = doneL f.bl l by rw [List.take_of_length_le (by omega)])
      have hRr : wr.heap[w1.heap.size]? = some (.cells #[.slice none 0 0] 24 (0, 0)) := (hb.block _ (by have := HZ2.out; omega)).trans HR.out
      have v0 := cell_of_heap hRr 0
      have vf := free_of_heap hRr 0
      simp only [List.getElem?_toArray, List.getElem?_cons_zero] at v0
      have HRR := Lib.hid hRr
      clear hY hO hb hRr
      go_wp2_with fail
      have hR9 : (wr.setCell ⟨w1.heap.size, 0, none⟩ (.slice A' n c')).heap[w1.heap.size]? = some (.cells #[.slice A' n c'] 24 (0, 0)) :=
        heap_setCell_same wr w1.heap.size 0 _ _ (.slice A' n c') HRR.out
      refine bodyPost_ret (results_cell_row rfl _ _ w1.heap.size 24 _ (0, 0) _ rfl hR9 Try.underlying24 rfl Try.sizeFlash) rfl ?_
      refine ⟨HX.out.setCell (p := ⟨w1.heap.size, 0, none⟩) (by have := HZ1.out; simp; omega) _, _, _, rfl, hc', ?_⟩
      rw [← HE.out]
      exact (HO.out.set_other HRR.out (by decide) 0 _).more HB2.out.size

end Go.Proofs.Ytpmjgkngkaleeaa
