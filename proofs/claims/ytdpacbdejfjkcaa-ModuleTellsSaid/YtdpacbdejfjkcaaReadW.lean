import Derived.Test.YtdpacbdejfjkcaaDecPure
import Derived.Test.YtdpacbdejfjkcaaWordW
import Derived.Test.YtdpacbdejfjkcaaMem
/- The reader of a module's bytes: take, number, name (chapter B). -/
namespace Go.Proofs.Ytdpacbdejfjkcaa
open Go.RowKit

/-- block B holds a reader, of which st is left -/
def Rd (B : Nat) (st : Rest) (w : World) : Prop := w.heap[B]? = some (.cells #[.string (sof (left st)), .bool st.isNone] 86 (0, 0))
/-- but for block B nothing has turned -/
structure Only (B : Nat) (w w' : World) : Prop where
  os : w'.os = w.os
  tape : w'.tape = w.tape
  output : w'.output = w.output
  size : w.heap.size ≤ w'.heap.size
  block : ∀ k, k < w.heap.size → k ≠ B → w'.heap[k]? = w.heap[k]?
theorem Only.refl (B : Nat) (w : World) : Only B w w := ⟨rfl, rfl, rfl, Nat.le_refl _, fun _ _ _ => rfl⟩
theorem Only.trans {B : Nat} {a b c : World} (h : Only B a b) (k : Only B b c) : Only B a c :=
  ⟨k.os.trans h.os, k.tape.trans h.tape, k.output.trans h.output, Nat.le_trans h.size k.size, fun i hi hb => (k.block i (Nat.lt_of_lt_of_le hi h.size) hb).trans (h.block i hi hb)⟩
theorem Only.set {B : Nat} {w : World} (o : Nat) (v : Value) : Only B w (w.setCell ⟨B, o, none⟩ v) :=
  ⟨rfl, rfl, rfl, by simp [World.setCell], fun k _ hk => Below.heap_setCell _ _ _ _ hk⟩
theorem Only.below {B : Nat} {w w' : World} (h : Only B w w') (hB : B ≤ w.heap.size) : Below B w w' := ⟨h.os, h.tape, h.output, h.size, fun k hk => h.block k (by omega) (by omega)⟩
theorem Only.cell {B : Nat} {w w' : World} (h : Only B w w') (c o : Nat) (h1 : c < w.heap.size) (h2 : c ≠ B) : w'.cell? ⟨c, o, none⟩ = w.cell? ⟨c, o, none⟩ := World.cell?_of_block (h.block c h1 h2)
theorem Only.frozen {B : Nat} {w w' : World} (h : Only B w w') (c o : Nat) (h1 : c < w.heap.size) (h2 : c ≠ B) : w'.frozen? ⟨c, o, none⟩ = w.frozen? ⟨c, o, none⟩ := World.frozen?_of_block (h.block c h1 h2)
theorem Rd.lt {B : Nat} {st : Rest} {w : World} (h : Rd B st w) : B < w.heap.size := (Array.getElem?_eq_some_iff.1 h).1
theorem Rd.cells {B : Nat} {st : Rest} {w : World} (h : Rd B st w) : w.cell? ⟨B, 0, none⟩ = some (.string (sof (left st))) ∧ w.cell? ⟨B, 1, none⟩ = some (.bool st.isNone) ∧ w.frozen? ⟨B, 0, none⟩ = false ∧ w.frozen? ⟨B, 1, none⟩ = false := by
  unfold Rd at h
  refine ⟨?_, ?_, ?_, ?_⟩ <;> simp [World.cell?, World.frozen?, h]
theorem sof_size (l : List UInt8) : (sof l).size = l.length := by show l.toArray.size = _; simp
theorem sof_extract (l : List UInt8) (a b : Nat) : (sof l).extract a b = sof ((l.take b).drop a) := by
  refine ba_eq ?_
  rw [Lib.extract_data]
  simp [List.drop_take]

set_option maxHeartbeats 2000000 in
set_option maxRecDepth 100000 in
theorem take_any (B : Nat) (st : Rest) (n : Nat) (w : World) (h : Rd B st w) (hl : (left st).length ≤ big) (_hn : n ≤ 100000) :
    Calls Try.prog 62 #[.pointer (some ⟨B, 0, none⟩), .int .i64 n] w fun e w' => e = .returned (.string (sof (txt n st).1)) ∧ Rd B (txt n st).2 w' ∧ Only B w w' := by
  obtain ⟨c0, c1, f0, f1⟩ := h.cells
  have H := Lib.hid h
  unfold big at hl
  have hsz := sof_size (left st)
  by_cases t0 : (left st).length < n
  · have t0' : ((left st).length : Int) < n := by omega
    have hT : txt n st = ([], none) := by
      cases st with
      | none => rfl
      | some s => exact txt_few t0
    have HT := Lib.hid hT
    clear h hT
    go_enter Try.func62, Try.ntmps62
    go_wp2_with fail
    go_ret
    refine ⟨by rw [HT.out]; rfl, ?_, (Only.set 0 _).trans (Only.set 1 _)⟩
    rw [HT.out]
    unfold Rd
    have e1 := heap_setCell_same w B 0 _ _ (.string ⟨#[]⟩) H.out
    have e2 := heap_setCell_same _ B 1 _ _ (.bool true) e1
    rw [e2]
    rfl
  · have t0' : decide (((left st).length : Int) < n) = false := by simp; omega
    have t1 : (n : Int) ≤ (left st).length := by omega
    have hT : (txt n st).1 = (left st).take n ∧ left (txt n st).2 = (left st).drop n ∧ (txt n st).2.isNone = st.isNone := by
      cases st with
      | none => exact ⟨by simp [txt, left], by simp [txt, left], rfl⟩
      | some s => rw [txt_some (show ¬ s.length < n from t0)]; exact ⟨rfl, rfl, rfl⟩
    have HT := Lib.hid hT
    clear h hT
    go_enter Try.func62, Try.ntmps62
    go_wp2_with fail
    go_ret
    obtain ⟨e1, e2, e3⟩ := HT.out
    refine ⟨?_, ?_, Only.set 0 _⟩
    · show Ending.returned (.string ((sof (left st)).extract 0 n)) = _
      rw [sof_extract, e1]
      simp
    · unfold Rd
      rw [e2, e3, heap_setCell_same w B 0 _ _ _ H.out, sof_extract]
      simp [List.take_of_length_le]

theorem txt_le (n : Nat) (st : Rest) : (txt n st).1.length ≤ n := by
  rcases txt_length n st with h | h
  · omega
  · rw [h.1]; simp

set_option maxHeartbeats 2000000 in
set_option maxRecDepth 100000 in
theorem number_any (B : Nat) (st : Rest) (k : Nat) (w : World) (h : Rd B st w) (hl : (left st).length ≤ big) (hk1 : 1 ≤ k) (hk : k ≤ 4) :
    Calls Try.prog 61 #[.pointer (some ⟨B, 0, none⟩), .int .i64 k] w fun e w' => e = .returned (.int .i64 (numb k st).1) ∧ Rd B (numb k st).2 w' ∧ Only B w w' := by
  have cT := Lib.hid (take_any B st k w h hl (by omega))
  have hln := txt_length k st
  have hle := txt_le k st
  have e1 : (numb k st).1 = num (txt k st).1 := rfl
  have e2 : (numb k st).2 = (txt k st).2 := rfl
  rw [e1, e2]
  generalize txt k st = T at *
  obtain ⟨t, st2⟩ := T
  simp only at cT hln hle e1 e2 ⊢
  clear e1 e2 h
  have hsz := sof_size t
  rcases hln with hln | ⟨rfl, rfl⟩
  · have cG := Lib.hid (fun W => Get_ok (sof t) 0 k W (by rw [hsz]; omega) (by rw [hsz]; exact checkWord_of (by omega) (by omega) (by omega) (by omega)))
    have hd : ((sof t).data.toList.drop 0).take k = t := by simp [← hln]
    rw [hd] at cG
    change Hid (∀ W, Calls _ _ #[.string (sof t), .int .i64 0, .int .i64 k] W _) at cG
    clear hd hln hle
    go_enter Try.func61, Try.ntmps61
    go_wp2_with (first | (go_at_call 62; refine (cT.out).mono ?_; rintro e w2 ⟨rfl, h2, ho2⟩; have H2 := Lib.hid h2; clear h2) | (go_at_call 91; with_reducible refine (cG.out _).mono ?_; rintro e w3 ⟨rfl, rfl⟩))
    go_ret
    exact ⟨rfl, H2.out, ho2⟩
  · have cG := Lib.hid (fun W => Get_no (sof []) 0 k W (by rw [hsz]; simp) (by
      rw [hsz]; unfold checkWord; rw [if_neg (by omega), if_pos (by simp; omega)]; omega))
    clear hle
    go_enter Try.func61, Try.ntmps61
    go_wp2_with (first | (go_at_call 62; refine (cT.out).mono ?_; rintro e w2 ⟨rfl, h2, ho2⟩; have H2 := Lib.hid h2; clear h2) | (go_at_call 91; with_reducible refine (cG.out _).mono ?_; rintro e w3 ⟨rfl, rfl⟩))
    go_ret
    exact ⟨rfl, H2.out, ho2⟩

set_option maxHeartbeats 2000000 in
set_option maxRecDepth 100000 in
theorem rname_any (B : Nat) (st : Rest) (w : World) (h : Rd B st w) (hl : (left st).length ≤ big) :
    Calls Try.prog 60 #[.pointer (some ⟨B, 0, none⟩)] w fun e w' => e = .returned (.string (sof (nam st).1)) ∧ Rd B (nam st).2 w' ∧ Only B w w' := by
  have c1 := Lib.hid (number_any B st 1 w h hl (by omega) (by omega))
  have h1 := (numb_range 1 st (by omega)).1
  have h2 := numb_one st
  have hl2 : (left (numb 1 st).2).length ≤ big := left_le 1 hl
  have en : nam st = txt (numb 1 st).1.toNat (numb 1 st).2 := rfl
  rw [en]
  generalize numb 1 st = T at *
  obtain ⟨n, st2⟩ := T
  simp only at c1 h1 h2 hl2 ⊢
  obtain ⟨k, rfl⟩ : ∃ k : Nat, n = k := ⟨n.toNat, by omega⟩
  have c2 := Lib.hid (fun W hW => take_any B st2 k W hW hl2 (by omega))
  have ek : ((k : Int)).toNat = k := by omega
  rw [ek]
  change Hid (Calls _ _ #[_, .int .i64 1] w _) at c1
  clear h en ek
  go_enter Try.func60, Try.ntmps60
  go_wp2_with (first | (go_at_call 61; refine (c1.out).mono ?_; rintro e w2 ⟨rfl, h2, ho2⟩; have H2 := Lib.hid h2; clear h2) | (go_at_call 62; refine (c2.out _ H2.out).mono ?_; rintro e w3 ⟨rfl, h3, ho3⟩; have H3 := Lib.hid h3; clear h3))
  go_ret
  exact ⟨rfl, H3.out, ho2.trans ho3⟩

end Go.Proofs.Ytdpacbdejfjkcaa
