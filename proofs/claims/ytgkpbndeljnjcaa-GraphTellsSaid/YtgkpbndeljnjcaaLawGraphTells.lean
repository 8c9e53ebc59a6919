import Derived.Test.YtgkpbndeljnjcaaGrBegun
import Derived.Test.YtgkpbndeljnjcaaROrderW
import Derived.Test.YtgkpbndeljnjcaaOpen
/- GraphTells: Needs, Users and Order answer just what the document says, errors too. No condition. -/
namespace Go.Proofs.Ytgkpbndeljnjcaa
open Go.ChangeShapes Go.WideShapes Go.ChangeAt Go.RowKit Go.WideMaps Go.WideElems
open Go.ChangeMaps (setBlock shut_map_nil open_string shut_string keptBut_setBlock frozen?_setBlock heap_setBlock_same)
open Gs (Tx)

theorem reachT_len (l : List Plc) (r : Tx → Tx → Bool) (a : Tx) : (reachT l r a).length ≤ l.length := by
  unfold reachT
  have := List.length_filter_le (fun x => decide (x ∈ Gr.visit (Gs.msort (txs l)) r (l.length + 1) [] a)) (Gs.msort (txs l))
  rw [msort_length, txs_length] at this
  exact this
theorem needsT_len (l : List Plc) (nm : ByteArray) : (needsT l nm).length ≤ l.length := by
  unfold needsT; split
  · simp
  · exact reachT_len _ _ _
theorem usersT_len (l : List Plc) (nm : ByteArray) : (usersT l nm).length ≤ l.length := by
  unfold usersT; split
  · simp
  · exact reachT_len _ _ _
theorem order_len {r : Tx → Tx → Bool} : ∀ (f : Nat) (left out c : List Tx), Gs.order r f left out = some c → c.length = out.length + f
  | 0, left, out, c, h => by unfold Gs.order at h; cases h; rfl
  | f + 1, left, out, c, h => by
    unfold Gs.order at h
    split at h
    · have := order_len f _ _ c h
      rw [this, List.length_append]; simp; omega
    · cases h
theorem orderT_len (l : List Plc) : (orderT l).length ≤ l.length := by
  unfold orderT; split
  · simp
  · cases e : sortedT l with
    | none => simp
    | some c =>
      have := order_len _ _ _ _ e
      simp only [Option.getD_some]
      rw [this]; simp
theorem same_any (A B : Option Addr) (c d m : Nat) (L : List Tx) (hm : L.length = m) (W : World) (h : TxRow W A L) (h' : TxRow W B L) (hl : L.length ≤ big) :
    Calls Try.prog 18 #[.slice A m c, .slice B m d] W fun e w' => e = .returned (.bool true) ∧ Below W.heap.size W w' := by
  subst hm
  refine (SameTexts_any A B c d L L W h h' hl hl).mono ?_
  rintro e w' ⟨he, hb⟩
  exact ⟨by rw [he]; simp, hb⟩
theorem TxRow.nil (W : World) : TxRow W none [] := Row.nil

set_option maxRecDepth 100000 in
set_option maxHeartbeats 8000000 in
theorem GraphTells_any (A : Option Addr) (l : List Plc) (c : Nat) (nm : ByteArray) (w : World) (h : PlsOk w A l) (hn : nm.size ≤ 140737488351232) :
    Calls Try.prog 3 #[.slice A l.length c, .string nm] w fun e w' => e = .returned (.bool true) ∧ Below w.heap.size w w' := by
  have HP := Lib.hid h
  have hl := h.len
  have LN := Lib.hid (show (needsT l nm).length ≤ big from Nat.le_trans (needsT_len l nm) hl)
  have LU := Lib.hid (show (usersT l nm).length ≤ big from Nat.le_trans (usersT_len l nm) hl)
  have LO := Lib.hid (show (orderT l).length ≤ big from Nat.le_trans (orderT_len l) hl)
  have c1 := Lib.hid (fun W (hb : Below w.heap.size w W) => Needs_any A c l nm W (h.below hb))
  have c2 := Lib.hid (fun W (hb : Below w.heap.size w W) => Users_any A c l nm W (h.below hb))
  have c3 := Lib.hid (fun W (hb : Below w.heap.size w W) => Order_any A c l W (h.below hb))
  have c4 := Lib.hid (fun W (hb : Below w.heap.size w W) => checkGraph_any A c l W (h.below hb))
  have c5 := Lib.hid (fun W (hb : Below w.heap.size w W) => PlaceOf_any A c l nm W (h.row.below hb) h.len)
  have c6 := Lib.hid (fun (h8 : l.length ≤ 8) W (hb : Below w.heap.size w W) => IsRound_any A c l W (h.below hb) h8)
  have c7 := Lib.hid (fun (h8 : l.length ≤ 8) u p (hp : p < l.length) (e : idxOf (named nm) l = p) W (hb : Below w.heap.size w W) => NeedsOf_any A c l nm u p W (h.below hb) h8 hp e)
  have c8 := Lib.hid (fun (h1 : grErr l = 0) (h2 : isRound l = false) W (hb : Below w.heap.size w W) => OrderOf_any A c l W (h.below hb) h1 h2)
  have G8 := Lib.hid (fun (h1 : grErr l = 0) => (grErr_ok h1).1)
  have hE : ofErr l nm = if grErr l ≠ 0 then grErr l else if idxOf (named nm) l < 0 then 5 else 0 := rfl
  have hN : ofErr l nm ≠ 0 → needsT l nm = [] ∧ usersT l nm = [] := fun h => ⟨by unfold needsT; rw [if_pos h], by unfold usersT; rw [if_pos h]⟩
  have hD : ofErr l nm = 0 → ∃ p, p < l.length ∧ idxOf (named nm) l = p ∧ needsT l nm = needsOf l p false ∧ usersT l nm = needsOf l p true := fun h => by
    obtain ⟨_, p, hp, e, _⟩ := ofErr_ok h
    refine ⟨p, hp, e, ?_, ?_⟩
    · have := needs_doc h; rwa [e, Int.toNat_natCast] at this
    · have := users_doc h; rwa [e, Int.toNat_natCast] at this
  have hO : grErr l = 0 → orderErr l = (if isRound l = true then 4 else 0) ∧ (isRound l = false → orderT l = orderD l) := fun h => by
    have hs := sorted_doc h
    unfold orderT orderErr
    rw [h, hs]
    cases isRound l
    · exact ⟨rfl, fun _ => rfl⟩
    · exact ⟨rfl, fun h => by cases h⟩
  have hO2 : grErr l ≠ 0 → orderErr l = grErr l := fun h => by unfold orderErr; rw [if_pos h]
  have hO3 : orderErr l ≠ 0 → orderT l = [] := fun h => by unfold orderT; rw [if_pos h]
  obtain ⟨E, hEE⟩ : ∃ E, E = ofErr l nm := ⟨_, rfl⟩
  obtain ⟨F, hFF⟩ : ∃ F, F = orderErr l := ⟨_, rfl⟩
  obtain ⟨g, hgg⟩ : ∃ g, g = grErr l := ⟨_, rfl⟩
  obtain ⟨pi, hpi⟩ : ∃ pi, pi = idxOf (named nm) l := ⟨_, rfl⟩
  obtain ⟨rd, hrd⟩ : ∃ rd, rd = isRound l := ⟨_, rfl⟩
  obtain ⟨N, hNN⟩ : ∃ N, N = needsT l nm := ⟨_, rfl⟩
  obtain ⟨U, hUU⟩ : ∃ U, U = usersT l nm := ⟨_, rfl⟩
  obtain ⟨D, hDD⟩ : ∃ D, D = orderT l := ⟨_, rfl⟩
  simp only [← hEE, ← hFF, ← hgg, ← hpi, ← hrd, ← hNN, ← hUU, ← hDD] at LN LU LO c1 c2 c3 c4 c5 c6 c7 c8 G8 hE hN hD hO hO2 hO3
  have HE := Lib.hid hE
  have HN := Lib.hid hN
  have HD := Lib.hid hD
  have HO := Lib.hid hO
  have HO2 := Lib.hid hO2
  have HO3 := Lib.hid hO3
  clear hEE hFF hgg hpi hrd hNN hUU hDD hE hN hD hO hO2 hO3 h hl
  go_enter Try.func3, Try.ntmps3
  go_wp2_with fail
  (with_reducible refine (c1.out _ (Below.refl _ _)).mono ?_); rintro e w1 ⟨⟨v1, rfl, ht1⟩, hb1⟩
  obtain ⟨A1, d1, rfl, hr1⟩ := ht1.form
  have HR1 := Lib.hid hr1
  have HB1 := Lib.hid hb1
  clear ht1 hr1 hb1 c1
  go_wp2_with fail
  (with_reducible refine (c2.out _ HB1.out).mono ?_); rintro e w2 ⟨⟨v2, rfl, ht2⟩, hb2⟩
  obtain ⟨A2, d2, rfl, hr2⟩ := ht2.form
  have HR2 := Lib.hid hr2
  have HX2 := Lib.hid hb2
  have HB2 := Lib.hid (HB1.out.trans (hb2.mono HB1.out.size))
  clear ht2 hr2 hb2 c2
  go_wp2_with fail
  (with_reducible refine (c3.out _ HB2.out).mono ?_); rintro e w3 ⟨⟨v3, rfl, ht3⟩, hb3⟩
  obtain ⟨A3, d3, rfl, hr3⟩ := ht3.form
  have HR3 := Lib.hid hr3
  have HX3 := Lib.hid hb3
  have HB3 := Lib.hid (HB2.out.trans (hb3.mono HB2.out.size))
  clear ht3 hr3 hb3 c3
  go_wp2_with fail
  (with_reducible refine (c4.out _ HB3.out).mono ?_); rintro e w4 ⟨rfl, hb4⟩
  have HX4 := Lib.hid hb4
  have HB4 := Lib.hid (HB3.out.trans (hb4.mono HB3.out.size))
  clear hb4 c4
  have KR1 := Lib.hid (((HR1.out.below HX2.out).below HX3.out).below HX4.out)
  have KR2 := Lib.hid ((HR2.out.below HX3.out).below HX4.out)
  have KR3 := Lib.hid (HR3.out.below HX4.out)
  clear HR1 HR2 HR3 HX2 HX3 HX4 HB1 HB2 HB3

  have HVw4 := Lib.hid (Below.refl w4.heap.size w4)
  have HBw4 := HB4
  by_cases t1 : g = 0
  · subst t1
    obtain ⟨ho1, ho2⟩ := HO.out rfl
    have h8 := G8.out rfl
    have he := HE.out
    rw [if_neg (by omega)] at he
    have HHE := Lib.hid he
    have HH1 := Lib.hid ho1
    have HH2 := Lib.hid ho2
    clear he ho1 ho2
    go_wp2_with fail
    (with_reducible refine (c5.out _ HB4.out).mono ?_); rintro e w5 ⟨rfl, hb5⟩
    have HVw5 := Lib.hid (HVw4.out.trans (hb5.mono HVw4.out.size))
    have HBw5 := Lib.hid (HB4.out.trans (HVw5.out.mono HB4.out.size))
    clear hb5
    by_cases t2 : pi < 0
    · have he := HHE.out
      rw [if_pos t2] at he
      subst he
      obtain ⟨hN0, hU0⟩ := HN.out (by omega)
      subst hN0 hU0
      go_wp2_with fail
      (with_reducible refine (c6.out h8 _ HBw5.out).mono ?_); rintro e w6 ⟨rfl, hb6⟩
      have HVw6 := Lib.hid (HVw5.out.trans (hb6.mono HVw5.out.size))
      have HBw6 := Lib.hid (HB4.out.trans (HVw6.out.mono HB4.out.size))
      clear hb6
      cases rd
      · have hF := HH1.out
        rw [if_neg (by simp)] at hF
        subst hF
        have c80 := Lib.hid (c8.out (by simp) (by simp))
        rw [← HH2.out (by simp)] at c80
        go_wp2_with fail
        (with_reducible refine (c80.out _ HBw6.out).mono ?_); rintro e w9 ⟨⟨v9, rfl, ht9⟩, hb9⟩
        obtain ⟨A9, d9, rfl, hr9⟩ := ht9.form
        have KR9 := Lib.hid hr9
        clear ht9 hr9
        have HVw9 := Lib.hid (HVw6.out.trans (hb9.mono HVw6.out.size))
        have HBw9 := Lib.hid (HB4.out.trans (HVw9.out.mono HB4.out.size))
        clear hb9
        have HCw9 := Lib.hid (Below.refl w9.heap.size w9)
        go_wp2_with fail
        (with_reducible refine (graphBegun_any _).mono ?_); rintro e wg ⟨rfl, hbg⟩
        have HCwg := Lib.hid (HCw9.out.trans (hbg.mono HCw9.out.size))
        have HVwg := Lib.hid (HVw9.out.trans (hbg.mono HVw9.out.size))
        have HBwg := Lib.hid (HB4.out.trans (HVwg.out.mono HB4.out.size))
        clear hbg
        have S1 := Lib.hid (same_any A1 none d1 0 0 [] rfl wg (KR1.out.below HVwg.out) (TxRow.nil _) (by unfold big; simp))
        go_wp2_with fail
        (with_reducible refine (S1.out).mono ?_); rintro e wh ⟨rfl, hbh⟩
        have HCwh := Lib.hid (HCwg.out.trans (hbh.mono HCwg.out.size))
        have HVwh := Lib.hid (HVwg.out.trans (hbh.mono HVwg.out.size))
        have HBwh := Lib.hid (HB4.out.trans (HVwh.out.mono HB4.out.size))
        clear hbh
        have S2 := Lib.hid (same_any A2 none d2 0 0 [] rfl wh (KR2.out.below HVwh.out) (TxRow.nil _) (by unfold big; simp))
        go_wp2_with fail
        (with_reducible refine (S2.out).mono ?_); rintro e wi ⟨rfl, hbi⟩
        have HCwi := Lib.hid (HCwh.out.trans (hbi.mono HCwh.out.size))
        have HVwi := Lib.hid (HVwh.out.trans (hbi.mono HVwh.out.size))
        have HBwi := Lib.hid (HB4.out.trans (HVwi.out.mono HB4.out.size))
        clear hbi
        have S3 := Lib.hid (same_any A3 A9 d3 d9 D.length D rfl wi (KR3.out.below HVwi.out) (KR9.out.below HCwi.out) LO.out)
        go_wp2_with fail
        (with_reducible refine (S3.out).mono ?_); rintro e wj ⟨rfl, hbj⟩
        have HVwj := Lib.hid (HVwi.out.trans (hbj.mono HVwi.out.size))
        have HBwj := Lib.hid (HB4.out.trans (HVwj.out.mono HB4.out.size))
        clear hbj
        go_wp2_with fail
        go_ret
        exact ⟨rfl, HBwj.out⟩
      · have hF := HH1.out
        rw [if_pos rfl] at hF
        subst hF
        obtain rfl : D = [] := HO3.out (by omega)
        have HCw6 := Lib.hid (Below.refl w6.heap.size w6)
        go_wp2_with fail
        (with_reducible refine (graphBegun_any _).mono ?_); rintro e wg ⟨rfl, hbg⟩
        have HCwg := Lib.hid (HCw6.out.trans (hbg.mono HCw6.out.size))
        have HVwg := Lib.hid (HVw6.out.trans (hbg.mono HVw6.out.size))
        have HBwg := Lib.hid (HB4.out.trans (HVwg.out.mono HB4.out.size))
        clear hbg
        have S1 := Lib.hid (same_any A1 none d1 0 0 [] rfl wg (KR1.out.below HVwg.out) (TxRow.nil _) (by unfold big; simp))
        go_wp2_with fail
        (with_reducible refine (S1.out).mono ?_); rintro e wh ⟨rfl, hbh⟩
        have HCwh := Lib.hid (HCwg.out.trans (hbh.mono HCwg.out.size))
        have HVwh := Lib.hid (HVwg.out.trans (hbh.mono HVwg.out.size))
        have HBwh := Lib.hid (HB4.out.trans (HVwh.out.mono HB4.out.size))
        clear hbh
        have S2 := Lib.hid (same_any A2 none d2 0 0 [] rfl wh (KR2.out.below HVwh.out) (TxRow.nil _) (by unfold big; simp))
        go_wp2_with fail
        (with_reducible refine (S2.out).mono ?_); rintro e wi ⟨rfl, hbi⟩
        have HCwi := Lib.hid (HCwh.out.trans (hbi.mono HCwh.out.size))
        have HVwi := Lib.hid (HVwh.out.trans (hbi.mono HVwh.out.size))
        have HBwi := Lib.hid (HB4.out.trans (HVwi.out.mono HB4.out.size))
        clear hbi
        have S3 := Lib.hid (same_any A3 none d3 0 0 [] rfl wi (KR3.out.below HVwi.out) (TxRow.nil _) (by unfold big; simp))
        go_wp2_with fail
        (with_reducible refine (S3.out).mono ?_); rintro e wj ⟨rfl, hbj⟩
        have HVwj := Lib.hid (HVwi.out.trans (hbj.mono HVwi.out.size))
        have HBwj := Lib.hid (HB4.out.trans (HVwj.out.mono HB4.out.size))
        clear hbj
        go_wp2_with fail
        go_ret
        exact ⟨rfl, HBwj.out⟩
    · have he := HHE.out
      rw [if_neg t2] at he
      have t2' : decide (pi < 0) = false := by simp; omega
      subst he
      obtain ⟨p, hp, ep, eN, eU⟩ := HD.out rfl
      subst ep
      have c70 := Lib.hid (c7.out h8 false p hp rfl)
      have c71 := Lib.hid (c7.out h8 true p hp rfl)
      rw [← eN] at c70
      rw [← eU] at c71
      clear eN eU t2
      go_wp2_with fail
      (with_reducible refine (c6.out h8 _ HBw5.out).mono ?_); rintro e w6 ⟨rfl, hb6⟩
      have HVw6 := Lib.hid (HVw5.out.trans (hb6.mono HVw5.out.size))
      have HBw6 := Lib.hid (HB4.out.trans (HVw6.out.mono HB4.out.size))
      clear hb6
      cases rd
      · have hF := HH1.out
        rw [if_neg (by simp)] at hF
        subst hF
        have c80 := Lib.hid (c8.out (by simp) (by simp))
        rw [← HH2.out (by simp)] at c80
        go_wp2_with fail
        (with_reducible refine (c70.out _ HBw6.out).mono ?_); rintro e w7 ⟨⟨v7, rfl, ht7⟩, hb7⟩
        obtain ⟨A7, d7, rfl, hr7⟩ := ht7.form
        have KR7 := Lib.hid hr7
        have HX7 := Lib.hid (Below.refl w7.heap.size w7)
        clear ht7 hr7
        have HVw7 := Lib.hid (HVw6.out.trans (hb7.mono HVw6.out.size))
        have HBw7 := Lib.hid (HB4.out.trans (HVw7.out.mono HB4.out.size))
        clear hb7
        go_wp2_with fail
        (with_reducible refine (c71.out _ HBw7.out).mono ?_); rintro e w8 ⟨⟨v8, rfl, ht8⟩, hb8⟩
        obtain ⟨A8, d8, rfl, hr8⟩ := ht8.form
        have KR8 := Lib.hid hr8
        have KR78 := Lib.hid (KR7.out.below hb8)
        clear ht8 hr8
        have HVw8 := Lib.hid (HVw7.out.trans (hb8.mono HVw7.out.size))
        have HBw8 := Lib.hid (HB4.out.trans (HVw8.out.mono HB4.out.size))
        clear hb8
        go_wp2_with fail
        (with_reducible refine (c80.out _ HBw8.out).mono ?_); rintro e w9 ⟨⟨v9, rfl, ht9⟩, hb9⟩
        obtain ⟨A9, d9, rfl, hr9⟩ := ht9.form
        have KR9 := Lib.hid hr9
        have KR79 := Lib.hid (KR78.out.below hb9)
        have KR89 := Lib.hid (KR8.out.below hb9)
        clear ht9 hr9
        have HVw9 := Lib.hid (HVw8.out.trans (hb9.mono HVw8.out.size))
        have HBw9 := Lib.hid (HB4.out.trans (HVw9.out.mono HB4.out.size))
        clear hb9
        have HCw9 := Lib.hid (Below.refl w9.heap.size w9)
        go_wp2_with fail
        (with_reducible refine (graphBegun_any _).mono ?_); rintro e wg ⟨rfl, hbg⟩
        have HCwg := Lib.hid (HCw9.out.trans (hbg.mono HCw9.out.size))
        have HVwg := Lib.hid (HVw9.out.trans (hbg.mono HVw9.out.size))
        have HBwg := Lib.hid (HB4.out.trans (HVwg.out.mono HB4.out.size))
        clear hbg
        have S1 := Lib.hid (same_any A1 A7 d1 d7 N.length N rfl wg (KR1.out.below HVwg.out) (KR79.out.below HCwg.out) LN.out)
        go_wp2_with fail
        (with_reducible refine (S1.out).mono ?_); rintro e wh ⟨rfl, hbh⟩
        have HCwh := Lib.hid (HCwg.out.trans (hbh.mono HCwg.out.size))
        have HVwh := Lib.hid (HVwg.out.trans (hbh.mono HVwg.out.size))
        have HBwh := Lib.hid (HB4.out.trans (HVwh.out.mono HB4.out.size))
        clear hbh
        have S2 := Lib.hid (same_any A2 A8 d2 d8 U.length U rfl wh (KR2.out.below HVwh.out) (KR89.out.below HCwh.out) LU.out)
        go_wp2_with fail
        (with_reducible refine (S2.out).mono ?_); rintro e wi ⟨rfl, hbi⟩
        have HCwi := Lib.hid (HCwh.out.trans (hbi.mono HCwh.out.size))
        have HVwi := Lib.hid (HVwh.out.trans (hbi.mono HVwh.out.size))
        have HBwi := Lib.hid (HB4.out.trans (HVwi.out.mono HB4.out.size))
        clear hbi
        have S3 := Lib.hid (same_any A3 A9 d3 d9 D.length D rfl wi (KR3.out.below HVwi.out) (KR9.out.below HCwi.out) LO.out)
        go_wp2_with fail
        (with_reducible refine (S3.out).mono ?_); rintro e wj ⟨rfl, hbj⟩
        have HVwj := Lib.hid (HVwi.out.trans (hbj.mono HVwi.out.size))
        have HBwj := Lib.hid (HB4.out.trans (HVwj.out.mono HB4.out.size))
        clear hbj
        go_wp2_with fail
        go_ret
        exact ⟨rfl, HBwj.out⟩
      · have hF := HH1.out
        rw [if_pos rfl] at hF
        subst hF
        obtain rfl : D = [] := HO3.out (by omega)
        go_wp2_with fail
        (with_reducible refine (c70.out _ HBw6.out).mono ?_); rintro e w7 ⟨⟨v7, rfl, ht7⟩, hb7⟩
        obtain ⟨A7, d7, rfl, hr7⟩ := ht7.form
        have KR7 := Lib.hid hr7
        have HX7 := Lib.hid (Below.refl w7.heap.size w7)
        clear ht7 hr7
        have HVw7 := Lib.hid (HVw6.out.trans (hb7.mono HVw6.out.size))
        have HBw7 := Lib.hid (HB4.out.trans (HVw7.out.mono HB4.out.size))
        clear hb7
        go_wp2_with fail
        (with_reducible refine (c71.out _ HBw7.out).mono ?_); rintro e w8 ⟨⟨v8, rfl, ht8⟩, hb8⟩
        obtain ⟨A8, d8, rfl, hr8⟩ := ht8.form
        have KR8 := Lib.hid hr8
        have KR78 := Lib.hid (KR7.out.below hb8)
        clear ht8 hr8
        have HVw8 := Lib.hid (HVw7.out.trans (hb8.mono HVw7.out.size))
        have HBw8 := Lib.hid (HB4.out.trans (HVw8.out.mono HB4.out.size))
        clear hb8
        have HCw8 := Lib.hid (Below.refl w8.heap.size w8)
        go_wp2_with fail
        (with_reducible refine (graphBegun_any _).mono ?_); rintro e wg ⟨rfl, hbg⟩
        have HCwg := Lib.hid (HCw8.out.trans (hbg.mono HCw8.out.size))
        have HVwg := Lib.hid (HVw8.out.trans (hbg.mono HVw8.out.size))
        have HBwg := Lib.hid (HB4.out.trans (HVwg.out.mono HB4.out.size))
        clear hbg
        have S1 := Lib.hid (same_any A1 A7 d1 d7 N.length N rfl wg (KR1.out.below HVwg.out) (KR78.out.below HCwg.out) LN.out)
        go_wp2_with fail
        (with_reducible refine (S1.out).mono ?_); rintro e wh ⟨rfl, hbh⟩
        have HCwh := Lib.hid (HCwg.out.trans (hbh.mono HCwg.out.size))
        have HVwh := Lib.hid (HVwg.out.trans (hbh.mono HVwg.out.size))
        have HBwh := Lib.hid (HB4.out.trans (HVwh.out.mono HB4.out.size))
        clear hbh
        have S2 := Lib.hid (same_any A2 A8 d2 d8 U.length U rfl wh (KR2.out.below HVwh.out) (KR8.out.below HCwh.out) LU.out)
        go_wp2_with fail
        (with_reducible refine (S2.out).mono ?_); rintro e wi ⟨rfl, hbi⟩
        have HCwi := Lib.hid (HCwh.out.trans (hbi.mono HCwh.out.size))
        have HVwi := Lib.hid (HVwh.out.trans (hbi.mono HVwh.out.size))
        have HBwi := Lib.hid (HB4.out.trans (HVwi.out.mono HB4.out.size))
        clear hbi
        have S3 := Lib.hid (same_any A3 none d3 0 0 [] rfl wi (KR3.out.below HVwi.out) (TxRow.nil _) (by unfold big; simp))
        go_wp2_with fail
        (with_reducible refine (S3.out).mono ?_); rintro e wj ⟨rfl, hbj⟩
        have HVwj := Lib.hid (HVwi.out.trans (hbj.mono HVwi.out.size))
        have HBwj := Lib.hid (HB4.out.trans (HVwj.out.mono HB4.out.size))
        clear hbj
        go_wp2_with fail
        go_ret
        exact ⟨rfl, HBwj.out⟩
  · have he := HE.out
    rw [if_pos t1] at he
    have hf := HO2.out t1
    obtain ⟨hN0, hU0⟩ := HN.out (by rw [he]; exact t1)
    obtain rfl : D = [] := HO3.out (by rw [hf]; exact t1)
    have t1' : (g == 0) = false := by simp [t1]
    subst he hf hN0 hU0
    clear t1
    go_wp2_with fail
    (with_reducible refine (graphBegun_any _).mono ?_); rintro e wg ⟨rfl, hbg⟩
    have HVwg := Lib.hid (HVw4.out.trans (hbg.mono HVw4.out.size))
    have HBwg := Lib.hid (HB4.out.trans (HVwg.out.mono HB4.out.size))
    clear hbg
    have S1 := Lib.hid (same_any A1 none d1 0 0 [] rfl wg (KR1.out.below HVwg.out) (TxRow.nil _) (by unfold big; simp))
    go_wp2_with fail
    (with_reducible refine (S1.out).mono ?_); rintro e wh ⟨rfl, hbh⟩
    have HVwh := Lib.hid (HVwg.out.trans (hbh.mono HVwg.out.size))
    have HBwh := Lib.hid (HB4.out.trans (HVwh.out.mono HB4.out.size))
    clear hbh
    have S2 := Lib.hid (same_any A2 none d2 0 0 [] rfl wh (KR2.out.below HVwh.out) (TxRow.nil _) (by unfold big; simp))
    go_wp2_with fail
    (with_reducible refine (S2.out).mono ?_); rintro e wi ⟨rfl, hbi⟩
    have HVwi := Lib.hid (HVwh.out.trans (hbi.mono HVwh.out.size))
    have HBwi := Lib.hid (HB4.out.trans (HVwi.out.mono HB4.out.size))
    clear hbi
    have S3 := Lib.hid (same_any A3 none d3 0 0 [] rfl wi (KR3.out.below HVwi.out) (TxRow.nil _) (by unfold big; simp))
    go_wp2_with fail
    (with_reducible refine (S3.out).mono ?_); rintro e wj ⟨rfl, hbj⟩
    have HVwj := Lib.hid (HVwi.out.trans (hbj.mono HVwi.out.size))
    have HBwj := Lib.hid (HB4.out.trans (HVwj.out.mono HB4.out.size))
    clear hbj
    go_wp2_with fail
    go_ret
    exact ⟨rfl, HBwj.out⟩

set_option maxRecDepth 100000 in
theorem graphTells_lifted (os : Os) (started : os.Started) (H : Type) (enc : TypeId × Value → H) :
    ReturnsInHanded {} Try.checked os 3 .any (Rows.graphTellsSpec.pre6 enc Try.prog Try.f3 Rows.graphTellsRow.domain false) (Rows.graphTellsSpec.post enc Try.prog Try.f3 false true false false) := by
  refine returnsInHanded_of_change_sized (C := Try.checked) Try.own started (by kernel_rfl) Try.func3
    (ChangeSpec.witness6 (enc := enc) (C := Try.checked) false ⟨#[], #[.slice none 0 0, .string ⟨#[]⟩], []⟩ 8 (by kernel_rfl) (by kernel_rfl) (by kernel_rfl) (by kernel_rfl)) ?_
  intro W base args ds gs before hval0 hW hcnd hsz0 _
  have hval : ∀ (j : Nat) t v, Try.f3.params[j]? = some t → args[j]? = some v → Value.okWide Try.prog W .any base t v := hval0
  have hsz : (DataW.weightsEach Try.prog (Try.f3.params.toList ++ Rows.graphTellsSpec.plain.varTypes Try.prog) (ds ++ gs)).all (· ≤ reachBytes) = true := hsz0
  have hW' := hW
  obtain ⟨p, q, hA0, hV, rfl, hfz, hnd⟩ := hW
  have hA : DataW.TrodAll enc Try.prog W 0 (fun _ => true) true Try.f3.params.toList args.toList ds p := hA0
  rw [Try.params3] at hA hval hsz
  obtain ⟨v0, vs0, d0, ds0, p0, q0, hargs, rfl, rfl, h0, r0⟩ := trodAll_cons hA
  obtain ⟨v1, vs1, d1, ds1, p1, q1, rfl, rfl, rfl, h1, r1⟩ := trodAll_cons r0
  obtain ⟨rfl, rfl, rfl⟩ := trodAll_nil r1
  obtain rfl : args = #[v0, v1] := by cases args; simp_all
  obtain ⟨rfl, rfl⟩ := trodVars_none hV
  have ft0 := fits_each hsz (j := 0) rfl rfl
  obtain ⟨lA, l, lc, rfl, ok0⟩ := open_Placeds (hval 0 22 v0 rfl rfl) h0 ft0
  obtain ⟨name, rfl, rfl, rfl, w1⟩ := open_string Try.underlying9 (hval 1 9 v1 rfl rfl) h1
  have z1 : name.size ≤ 140737488351232 := by have := sized_string hsz (j := 1) (t := 9) rfl rfl; simpa [reachBytes] using this
  refine (GraphTells_any lA l lc name W ok0 z1).mono fun e W' ⟨he, hb⟩ => ?_
  subst he
  exact ⟨_, rfl, law_post Try.laidOut hW' rfl (by decide +kernel) rfl Try.underlying4 rfl rfl rfl hb⟩

theorem graphTells_holds : Rows.GraphTellsSaid :=
  OpenClaim.holds_of_wide 3 Try.f3 rfl rfl rfl rfl rfl rfl rfl ⟨rfl, rfl, rfl, rfl, rfl⟩ rfl rfl rfl rfl rfl (by kernel_rfl) Try.func3 (by kernel_rfl)
    (of_decide_eq_true (by kernel_rfl)) (by unfold Func.isWrapper; first | (rw [if_pos (by decide +kernel)]; kernel_rfl) | (rw [if_neg (by decide +kernel)]; exact ⟨rfl, rfl⟩))
    (fun os started H enc _ => graphTells_lifted os started H enc)
#print axioms graphTells_holds


end Go.Proofs.Ytgkpbndeljnjcaa
