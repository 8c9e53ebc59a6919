import Derived.Test.YtdpacbdejfjkcaaDecodeW
import Derived.Test.YtdpacbdejfjkcaaWord2W
/- The document's Taker: Text, Number, Name (chapter B). -/
namespace Go.Proofs.Ytdpacbdejfjkcaa
open Go.RowKit

/-- block T holds a Taker of the bytes S, of which st is left -/
def Tk (T : Nat) (S : List UInt8) (st : Rest) (w : World) : Prop :=
  ∃ at_ : Nat, w.heap[T]? = some (.cells #[.string (sof S), .int .i64 at_, .bool st.isNone] 95 (0, 0)) ∧ at_ ≤ S.length ∧ (st = none ∨ st = some (S.drop at_))
theorem Only.drewN {B : Nat} {w w' : World} (h : Only B w w') (n : Nat) : Only B w (w'.drewN n) := ⟨h.os, h.tape, h.output, h.size, h.block⟩

set_option maxHeartbeats 2000000 in
set_option maxRecDepth 100000 in
theorem Text_any (T : Nat) (S : List UInt8) (st : Rest) (n : Nat) (w : World) (h : Tk T S st w) (hS : S.length ≤ big) (hn : n ≤ 100000) :
    Calls Try.prog 71 #[.pointer (some ⟨T, 0, none⟩), .int .i64 n] w fun e w' => e = .returned (.string (sof (txt n st).1)) ∧ Tk T S (txt n st).2 w' ∧ Only T w w' := by
  obtain ⟨a, hh, ha, hst⟩ := h
  have c0 := heap_cell hh 0
  have c1 := heap_cell hh 1
  have c2 := heap_cell hh 2
  have f1 := heap_free hh 1
  have f2 := heap_free hh 2
  simp only [List.getElem?_toArray, List.getElem?_cons_succ, List.getElem?_cons_zero] at c0 c1 c2
  have HH := Lib.hid hh
  have hsz := sof_size S
  unfold big at hS
  clear hh
  cases st with
  | none =>
    simp only [Option.isNone_none] at c2
    clear hst
    go_enter Try.func71, Try.ntmps71
    go_wp2_with fail
    go_quiet (fail)
    go_wp2_with fail
    go_ret
    exact ⟨rfl, ⟨a, heap_setCell_same _ T 2 _ _ _ HH.out, ha, .inl rfl⟩, ((Only.refl T w).drewN _).trans (Only.set 2 _)⟩
  | some s =>
    simp only [Option.isNone_some] at c2
    have hs : s = S.drop a := by
      rcases hst with h | h
      · cases h
      · exact Option.some.inj h
    have HS := Lib.hid hs
    obtain ⟨d, hd⟩ : ∃ d, d = S.length - a := ⟨_, rfl⟩
    have hsl : s.length = d := by rw [hs, List.length_drop, hd]
    have q1 : IntKind.i64.wrap ((S.length : Int) - a) = d := by rw [IntWalk.i64_in _ (by omega)]; omega
    by_cases t0 : d < n
    · have t0' : (d : Int) < n := by omega
      have HT := Lib.hid (txt_few (n := n) (s := s) (by omega))
      clear hst hs hd hsl
      go_enter Try.func71, Try.ntmps71
      go_wp2_with fail
      go_quiet (fail)
      go_wp2_with fail
      go_ret
      exact ⟨by rw [HT.out]; rfl, ⟨a, by rw [HT.out]; exact heap_setCell_same _ T 2 _ _ _ HH.out, ha, .inl (by rw [HT.out])⟩, ((Only.refl T w).drewN _).trans (Only.set 2 _)⟩
    · have t0' : decide ((d : Int) < n) = false := by simp; omega
      obtain ⟨b, hb⟩ : ∃ b, b = a + n := ⟨_, rfl⟩
      have q2 : IntKind.i64.wrap ((a : Int) + n) = b := by rw [IntWalk.i64_in _ (by omega)]; omega
      have q3 : IntKind.i64.wrap ((b : Int) - n) = a := by rw [IntWalk.i64_in _ (by omega)]; omega
      have q4 : (0 : Int) ≤ a := by omega
      have q5 : (a : Int) ≤ b := by omega
      have q6 : (b : Int) ≤ S.length := by omega
      have HT := Lib.hid (txt_some (n := n) (s := s) (by omega))
      have HB := Lib.hid hb
      have hbS : b ≤ S.length := by omega
      clear hst hs hd hsl hb
      go_enter Try.func71, Try.ntmps71
      go_wp2_with fail
      go_quiet (fail)
      go_wp2_with fail
      go_quiet (fail)
      go_wp2_with fail
      go_ret
      have e1 : (sof S).extract a b = sof (txt n (some s)).1 := by
        rw [HT.out, sof_extract, HS.out, List.drop_take, show b - a = n by have := HB.out; omega]
      refine ⟨by rw [← e1]; rfl, ⟨b, ?_, hbS, .inr (by rw [HT.out, HS.out, List.drop_drop, HB.out])⟩, ?_⟩
      · rw [HT.out]
        exact heap_setCell_same _ T 1 _ _ _ HH.out
      · exact (((Only.refl T w).drewN _).trans (Only.set 1 _)).drewN _


set_option maxHeartbeats 2000000 in
set_option maxRecDepth 100000 in
theorem Number_any (T : Nat) (S : List UInt8) (st : Rest) (k : Nat) (w : World) (h : Tk T S st w) (hS : S.length ≤ big) (hk1 : 1 ≤ k) (hk : k ≤ 4) :
    Calls Try.prog 70 #[.pointer (some ⟨T, 0, none⟩), .int .i64 k] w fun e w' => e = .returned (.int .i64 (numb k st).1) ∧ Tk T S (numb k st).2 w' ∧ Only T w w' := by
  have hTw : T < w.heap.size := by obtain ⟨a, hh, _⟩ := h; exact (Array.getElem?_eq_some_iff.1 hh).1
  have cT := Lib.hid (Text_any T S st k w h hS (by omega))
  have hln := txt_length k st
  have hnn : (txt k st).2 = none → (txt k st).1 = [] := fun hn => by
    cases st with
    | none => rfl
    | some s =>
      by_cases hs : s.length < k
      · rw [txt_few hs]
      · rw [txt_some hs] at hn; cases hn
  have e1 : (numb k st).1 = num (txt k st).1 := rfl
  have e2 : (numb k st).2 = (txt k st).2 := rfl
  rw [e1, e2]
  generalize txt k st = Q at *
  obtain ⟨t, st2⟩ := Q
  simp only at cT hln hnn e1 e2 ⊢
  clear e1 e2 h
  have hsz := sof_size t
  cases st2 with
  | none =>
    obtain rfl := hnn rfl
    clear hln hnn
    go_enter Try.func70, Try.ntmps70
    go_wp2_with (go_at_call 71; refine (cT.out).mono ?_; rintro e w2 ⟨rfl, h2, ho2⟩; have H2 := Lib.hid h2; obtain ⟨a, hh, _⟩ := h2; have c2 := heap_cell hh 2; simp only [List.getElem?_toArray, List.getElem?_cons_succ, List.getElem?_cons_zero, Option.isNone_none] at c2; clear hh)
    go_ret
    exact ⟨rfl, H2.out, ho2⟩
  | some r =>
    have hlk : t.length = k := by
      rcases hln with h | ⟨_, h⟩
      · exact h
      · cases h
    have cG := Lib.hid (fun W => GetOf_ok (sof t) 0 k W (by rw [hsz]; omega) (by rw [hsz]; exact checkWord_of (by omega) (by omega) (by omega) (by omega)))
    have hd : ((sof t).data.toList.drop 0).take k = t := by simp [← hlk]
    rw [hd] at cG
    change Hid (∀ W, Calls _ _ #[.string (sof t), .int .i64 0, .int .i64 k] W _) at cG
    clear hd hln hnn hlk
    go_enter Try.func70, Try.ntmps70
    go_wp2_with (first | (go_at_call 71; refine (cT.out).mono ?_; rintro e w2 ⟨rfl, h2, ho2⟩; have H2 := Lib.hid h2; obtain ⟨a, hh, ha2⟩ := h2; have c2 := heap_cell hh 2; simp only [List.getElem?_toArray, List.getElem?_cons_succ, List.getElem?_cons_zero, Option.isNone_some] at c2; clear hh ha2) | (go_at_call 94; with_reducible refine (cG.out _).mono ?_; rintro e w3 ⟨rfl, hb3⟩))
    go_ret
    have hT2 : T < w2.heap.size := Nat.lt_of_lt_of_le hTw ho2.size
    refine ⟨rfl, ?_, ho2.trans ⟨hb3.os, hb3.tape, hb3.output, hb3.size, fun k hk _ => hb3.block k hk⟩⟩
    obtain ⟨a, hh, h4⟩ := H2.out
    exact ⟨a, (hb3.block T hT2).trans hh, h4⟩

set_option maxHeartbeats 2000000 in
set_option maxRecDepth 100000 in
theorem TName_any (T : Nat) (S : List UInt8) (st : Rest) (w : World) (h : Tk T S st w) (hS : S.length ≤ big) :
    Calls Try.prog 69 #[.pointer (some ⟨T, 0, none⟩)] w fun e w' => e = .returned (.string (sof (nam st).1)) ∧ Tk T S (nam st).2 w' ∧ Only T w w' := by
  have c1 := Lib.hid (Number_any T S st 1 w h hS (by omega) (by omega))
  have h1 := (numb_range 1 st (by omega)).1
  have h2 := numb_one st
  have en : nam st = txt (numb 1 st).1.toNat (numb 1 st).2 := rfl
  rw [en]
  generalize numb 1 st = Q at *
  obtain ⟨n, st2⟩ := Q
  simp only at c1 h1 h2 ⊢
  obtain ⟨k, rfl⟩ : ∃ k : Nat, n = k := ⟨n.toNat, by omega⟩
  have c2 := Lib.hid (fun W hW => Text_any T S st2 k W hW hS (by omega))
  have ek : ((k : Int)).toNat = k := by omega
  rw [ek]
  change Hid (Calls _ _ #[_, .int .i64 1] w _) at c1
  clear h en ek
  go_enter Try.func69, Try.ntmps69
  go_wp2_with (first | (go_at_call 70; refine (c1.out).mono ?_; rintro e w2 ⟨rfl, h2, ho2⟩; have H2 := Lib.hid h2; clear h2) | (go_at_call 71; refine (c2.out _ H2.out).mono ?_; rintro e w3 ⟨rfl, h3, ho3⟩; have H3 := Lib.hid h3; clear h3))
  go_ret
  exact ⟨rfl, H3.out, ho2.trans ho3⟩

end Go.Proofs.Ytdpacbdejfjkcaa
