import Derived.Test.YtpmjgkngkaleeaaOpenF
/- FlashErased: what is erased is all 1; what is programmed twice is programmed once; deeds in two parts are all of them. No condition. -/
namespace Go.Proofs.Ytpmjgkngkaleeaa
open Go.ChangeShapes Go.WideShapes Go.ChangeAt Go.RowKit Go.WideMaps Go.WideElems
open Go.ChangeMaps (setBlock shut_map_nil open_string shut_string keptBut_setBlock frozen?_setBlock heap_setBlock_same)

/-- a flash that lies in the block B, and may be handed on -/
def Held (w wx : World) (B : Nat) (X : List ByteArray) : Prop := ∃ g : Fl, wx.cell? ⟨B, 0, none⟩ = some (.slice g.a g.bl.length g.c) ∧ g.ok wx ∧ g.bl = X ∧ Below w.heap.size w wx ∧ B < wx.heap.size
section
variable {w V w6 : World} {B : Nat} {g : Fl} {X : List ByteArray} {old : Value}
theorem held_in (hV : Below w.heap.size w V) (hB : w.heap.size ≤ B) (hO : V.heap[B]? = some (.cells #[old] 24 (0, 0))) (hb6 : Below V.heap.size V w6) (hr : FlRes w6 V.heap.size g X) (hX : flErr X = 0) :
    Held w (w6.setCell ⟨B, 0, none⟩ (.slice g.a g.bl.length g.c)) B X := by
  have hlt : B < V.heap.size := (Array.getElem?_eq_some_iff.1 hO).1
  have h6 := (hb6.block _ hlt).trans hO
  have h7 := heap_setCell_same w6 B 0 _ _ (.slice g.a g.bl.length g.c) h6
  have hr' : FlRes (w6.setCell ⟨B, 0, none⟩ (.slice g.a g.bl.length g.c)) V.heap.size g X := ⟨hr.own.set_other h6 (by decide) 0 _, hr.cap, hr.is⟩
  refine ⟨g, ?_, hr'.ok (.inr hX), hr.is, (hV.trans (hb6.mono hV.size)).setCell (p := ⟨B, 0, none⟩) hB _, by have := hb6.size; simp; omega⟩
  rw [cell_of_heap h7 0]; rfl
theorem held_new (hV : Below w.heap.size w V) (hb6 : Below V.heap.size V w6) (hr : FlRes w6 V.heap.size g X) (hX : flErr X = 0) :
    Held w (w6.alloc (.cells #[.slice g.a g.bl.length g.c] 24)) w6.heap.size X := by
  obtain ⟨h1, _, h3, h4⟩ := box_new (rfl : w6.alloc (.cells #[.slice g.a g.bl.length g.c] 24) = _)
  exact ⟨g, h1, (hr.ok (.inr hX)).below h4, hr.is, (hV.trans ((hb6.trans (h4.mono hb6.size)).mono hV.size)), by omega⟩
theorem cell_keep (hb : Below V.heap.size V w6) (h : V.heap[B]? = some (.cells #[old] 24 (0, 0))) : w6.cell? ⟨B, 0, none⟩ = some old ∧ w6.frozen? ⟨B, 0, none⟩ = false := by
  have h6 := (hb.block _ (Array.getElem?_eq_some_iff.1 h).1).trans h
  exact ⟨by rw [cell_of_heap h6 0]; rfl, free_of_heap h6 0⟩
end
theorem Row.take {α : Type} {enc : α → List Value} {k : Nat} (hk : ∀ x, (enc x).length = k) {w : World} {A : Option Addr} {l : List α} (h : Row enc k w A l) (n : Nat) : Row enc k w A (l.take n) := by
  refine ⟨flat_length hk _, fun hn => ?_⟩
  have hl : 0 < l.length := by rw [List.length_take] at hn; omega
  obtain ⟨ad, e, hb, hc⟩ := h.2 hl
  refine ⟨ad, e, hb, fun j u hu => hc j u ?_⟩
  have e2 : l.flatMap enc = (l.take n).flatMap enc ++ (l.drop n).flatMap enc := by rw [← List.flatMap_append, List.take_append_drop]
  rw [e2, List.getElem?_append_left (List.getElem?_eq_some_iff.1 hu).1]
  exact hu
theorem Row.drop {α : Type} {enc : α → List Value} {k : Nat} (hk : ∀ x, (enc x).length = k) {w : World} {ad : Addr} {l : List α} (h : Row enc k w (some ad) l) (n : Nat) : Row enc k w (some (ad.add (n * k))) (l.drop n) := by
  refine ⟨flat_length hk _, fun hn => ?_⟩
  have hl : n < l.length := by rw [List.length_drop] at hn; omega
  obtain ⟨ad', e, hb, hc⟩ := h.2 (by omega)
  obtain rfl := Option.some.inj e
  refine ⟨_, rfl, by rw [block_of_add]; exact hb, fun j u hu => ?_⟩
  rw [add_of_add]
  refine hc _ u ?_
  have : l.flatMap enc = (l.take n).flatMap enc ++ (l.drop n).flatMap enc := by rw [← List.flatMap_append, List.take_append_drop]
  have hm : ((l.take n).flatMap enc).length = n * k := by rw [flat_length hk, List.length_take, Nat.min_eq_left (by omega)]
  rw [this, List.getElem?_append_right (by omega), hm, Nat.add_sub_cancel_left]
  exact hu
theorem Row.none_ {α : Type} {enc : α → List Value} {k : Nat} {w : World} (A : Option Addr) : Row enc k w A ([] : List α) := ⟨by simp, fun h => absurd h (by simp)⟩

theorem DedsOk.drop {w : World} {A : Option Addr} {l : List Ded} (h : DedsOk w A l) (c n : Nat) (hc : l.length ≤ c) : DedsOk w (if c = n then A else Option.map (fun x : Addr => x.add (n * 3)) A) (l.drop n) := by
  refine ⟨?_, by rw [List.length_drop]; have := h.len; omega⟩
  split
  · rw [List.drop_eq_nil_of_le (by omega)]; exact Row.none_ _
  · cases A with
    | none =>
      have : l = [] := by
        rcases Nat.eq_zero_or_pos l.length with h0 | h0
        · exact List.eq_nil_of_length_eq_zero h0
        · obtain ⟨_, e, _⟩ := h.row.2 h0; cases e
      subst this
      rw [List.drop_nil]; exact Row.none_ _
    | some ad => exact Row.drop (enc := Ded.cells) (k := 3) (fun _ => rfl) h.row n

theorem deds_split {f : List ByteArray} {l : List Ded} (h : dedsErr f l = 0) (n : Nat) : dedsErr f (l.take n) = 0 ∧ flErr (doneL f (l.take n)) = 0 ∧ dedsErr (doneL f (l.take n)) (l.drop n) = 0 ∧ doneL (doneL f (l.take n)) (l.drop n) = doneL f l := by
  obtain ⟨hf, hd⟩ := dedsErr_ok.1 h
  have h1 : ∀ d ∈ l.take n, dedErr f.length d = 0 := fun d hd' => hd d (List.mem_of_mem_take hd')
  obtain ⟨h2, h3⟩ := doneL_ok hf h1
  refine ⟨dedsErr_ok.2 ⟨hf, h1⟩, h2, dedsErr_ok.2 ⟨h2, fun d hd' => by rw [h3]; exact hd d (List.mem_of_mem_drop hd')⟩, ?_⟩
  rw [← doneL_append, List.take_append_drop]
theorem deds_done {f : List ByteArray} {l : List Ded} (h : dedsErr f l = 0) : flErr (doneL f l) = 0 ∧ ∀ d ∈ l, dedsErr (doneL f l) [d] = 0 ∧ flErr (doneL (doneL f l) [d]) = 0 ∧ dedsErr (doneL (doneL f l) [d]) [d] = 0 ∧ doneL (doneL (doneL f l) [d]) [d] = doneL (doneL f l) [d] := by
  obtain ⟨hf, hd⟩ := dedsErr_ok.1 h
  obtain ⟨h2, h3⟩ := doneL_ok hf hd
  refine ⟨h2, fun d hd' => ?_⟩
  have e1 : dedErr (doneL f l).length d = 0 := by rw [h3]; exact hd d hd'
  have e2 : flErr (doneL (doneL f l) [d]) = 0 := turned_ok _ h2 e1
  have e3 : dedErr (doneL (doneL f l) [d]).length d = 0 := by
    show dedErr (done1 (doneL f l) d).length d = 0
    unfold done1; rw [turned_length]; exact e1
  exact ⟨by rw [deds_one, if_pos h2]; exact e1, e2, by rw [deds_one, if_pos e2]; exact e3, done_again _ h2 e1⟩
theorem dedsErr_block (X : List ByteArray) (b : Int) (h : flErr X = 0) : dedsErr X [⟨2, b, 0⟩] = 0 ∨ dedsErr X [⟨2, b, 0⟩] = 3 := by
  rw [deds_one, if_pos h]
  unfold dedErr
  rw [if_neg (show ¬ ((2 : Int) = 1) by decide), if_pos rfl]
  split
  · exact .inl rfl
  · exact .inr rfl

set_option maxHeartbeats 4000000 in
set_option maxRecDepth 100000 in
theorem FlashErased_any (f : Fl) (A : Option Addr) (l : List Ded) (c : Nat) (cut block : Int) (w : World) (h : f.ok w) (h' : DedsOk w A l ∧ l.length ≤ c ∧ c ≤ maxLen) (hcut : -9223372036854775808 ≤ cut ∧ cut ≤ 9223372036854775807) (hblock : -9223372036854775808 ≤ block ∧ block ≤ 9223372036854775807) :
    Calls Try.prog 3 #[f.v, .slice A l.length c, .int .i64 cut, .int .i64 block] w fun e w' => e = .returned (.bool true) ∧ Below w.heap.size w w' := by
  obtain ⟨hD, hlc, hcm⟩ := h'
  obtain ⟨w1, hw1⟩ : ∃ w1, w1 = w.alloc (.cells #[.slice f.a f.bl.length f.c] 24) := ⟨_, rfl⟩
  obtain ⟨f0, hz1, hb1⟩ := box1 hw1
  have hw1' := hw1.symm
  have HB1 := Lib.hid hb1
  have HZ1 := Lib.hid hz1
  have H := Lib.hid h
  have HD := Lib.hid hD
  have cB := Lib.hid (fun W => flashBegun_any W)
  have cD := Lib.hid (fun W hW => Do_any f A c l W (h.below hW) (hD.below hW))
  have hl63 := hD.len
  have hcm' : c ≤ 9223372036854775807 := by unfold maxLen at hcm; exact hcm
  unfold big at hl63
  obtain ⟨E, hE⟩ : ∃ E, E = dedsErr f.bl l := ⟨_, rfl⟩
  rw [← hE] at cD
  have HE := Lib.hid hE
  clear hw1 hb1 hz1 h hD hE hcm
  by_cases t0 : E = 0
  · rw [resIf_zero t0] at cD
    subst t0
    have HDD := Lib.hid (deds_done HE.out.symm)
    obtain ⟨X, hX⟩ : ∃ X, X = doneL f.bl l := ⟨_, rfl⟩
    rw [← hX] at cD HDD
    have HX := Lib.hid hX
    clear hX
    go_enter Try.func3, Try.ntmps3
    go_upto_region 6 with (first
      | (go_at_call 9; refine (cB.out _).mono ?_; rintro e w2 ⟨rfl, hb2⟩
         have f2 := (hb2.cell (p := ⟨w.heap.size, 0, none⟩) (by have := HZ1.out; simp; omega)).trans f0
         have HB2 := Lib.hid (HB1.out.trans (hb2.mono HB1.out.size))
         have HZ2 := Lib.hid hb2.size
         clear hb2)
      | (go_at_call 10; refine (cD.out _ HB2.out).mono ?_; rintro e w3 ⟨hb3, a, rfl, hr3⟩
         have f3 := (hb3.cell (p := ⟨w.heap.size, 0, none⟩) (by have := HZ1.out; have := HZ2.out; simp; omega)).trans f2
         obtain ⟨w4, hw4⟩ : ∃ x, x = w3.alloc (.cells #[.slice a.a a.bl.length a.c] 24) := ⟨_, rfl⟩
         obtain ⟨a4, _, hz4, hb4⟩ := box_new hw4
         have hw4' := hw4.symm
         have f4 := (hb4.cell (p := ⟨w.heap.size, 0, none⟩) (cell_lt' f3)).trans f3
         have HA4 := Lib.hid ((hr3.ok (.inr HDD.out.1)).below hb4)
         have HAX := Lib.hid hr3.is
         have HB4 := Lib.hid (HB2.out.trans ((hb3.trans (hb4.mono hb3.size)).mono HB2.out.size))
         have HZ4 := Lib.hid hz4
         clear hw4 hb3 hb4 hr3 hz4))
    obtain ⟨b0, hb0⟩ : ∃ b, b = decide (0 ≤ cut ∧ cut ≤ (l.length : Int)) := ⟨_, rfl⟩
    have HB0 := Lib.hid hb0
    clear hb0
    go_cut [44] from 37 to 44 (fun b wx => b = .bool b0 ∧ w4 = wx)
    case first =>
      go_wp2_with fail
      all_goals (go_meet; exact ⟨by rw [HB0.out]; congr 1; simp at *; omega, rfl⟩)
    case rest =>
      obtain ⟨rfl, rfl⟩ := hcut
      go_upto_if 44 with fail
      go_cut [45] from 45 to 72 (fun _ wx => Below w4.heap.size w4 wx)
      case first =>
        by_cases t1 : 0 ≤ cut ∧ cut ≤ (l.length : Int)
        · have hb0' : b0 = true := by rw [HB0.out]; simpa using t1
          subst hb0'
          obtain ⟨n, rfl⟩ : ∃ n : Nat, cut = n := ⟨cut.toNat, by omega⟩
          have hnl : n ≤ l.length := by omega
          have hnc : (n : Int) ≤ c := by omega
          have hnl' : (n : Int) ≤ l.length := by omega
          obtain ⟨Y, hY⟩ : ∃ Y, Y = doneL f.bl (l.take n) := ⟨_, rfl⟩
          have HSP := Lib.hid (deds_split HE.out.symm n)
          rw [← hY] at HSP
          have HY := Lib.hid hY
          have hlen : (l.take n).length = n := by rw [List.length_take]; omega
          have cY := Lib.hid (fun W (hW : Below w4.heap.size w4 W) => Do_any f A c (l.take n) W (H.out.below (HB4.out.trans (hW.mono HB4.out.size))) ⟨Row.take (enc := Ded.cells) (k := 3) (fun _ => rfl) (HD.out.below (HB4.out.trans (hW.mono HB4.out.size))).row n, by rw [hlen]; unfold big; omega⟩)
          rw [← hY, HSP.out.1, hlen, resIf_zero rfl] at cY
          clear hY t1
          go_upto_region 7 with fail
          have HD0 := Lib.hid (show Below w4.heap.size w4 w4.drew from below_drewN (Below.refl _ _) 1)
          have HD1 := Lib.hid (show Below w4.heap.size w4 (w4.alloc (.cells #[.slice none 0 0] 24)).drew from below_drewN ((Below.refl _ _).alloc (Nat.le_refl _) _) 1)
          have HO1 := Lib.hid (show (w4.alloc (.cells #[.slice none 0 0] 24)).drew.heap[w4.heap.size]? = some (.cells #[.slice none 0 0] 24 (0, 0)) from heap_alloc_new w4 _)
          have hw04 : w.heap.size < w4.heap.size := cell_lt' f4
          have hw34 : w3.heap.size < w4.heap.size := cell_lt' a4
          go_cut [11, 12] from 45 to 52 (fun p e wx => ∃ B, p = .pointer (some ⟨B, 0, none⟩) ∧ e = .int .i64 0 ∧ Held w4 wx B Y)
          case first =>
            go_region_with (go_at_call 10; with_reducible refine (cY.out _ ?_).mono ?_; (first | exact HD0.out | exact HD1.out); rintro e w6 ⟨hb6, g, rfl, hr6⟩; (first | obtain ⟨o6, o7⟩ := cell_keep hb6 HO1.out | skip))
            all_goals (go_wp2_with fail; go_meet; first | exact ⟨_, rfl, rfl, held_new HD0.out hb6 hr6 HSP.out.2.1⟩ | exact ⟨_, rfl, rfl, held_in HD1.out (Nat.le_refl _) HO1.out hb6 hr6 HSP.out.2.1⟩)
          case rest =>
            obtain ⟨B5, rfl, rfl, hH⟩ := hcut
            obtain ⟨w5, rfl⟩ : ∃ W : World, W = wc := ⟨_, rfl⟩
            obtain ⟨x, x5, hxo, hxY, hx5, hxB⟩ := hH
            have HXO := Lib.hid hxo
            have hlr : (l.drop n).length = l.length - n := List.length_drop ..
            obtain ⟨A2, hA2⟩ : ∃ A2, (if c = n then A else Option.map (fun x : Addr => x.add (n * 3)) A) = A2 := ⟨_, rfl⟩
            have HDR := Lib.hid (hA2 ▸ HD.out.drop c n hlc)
            have HW5 := Lib.hid (HB4.out.trans (hx5.mono HB4.out.size))
            have cZ := Lib.hid (fun c' W (hW : Below w5.heap.size w5 W) => Do_any x A2 c' (l.drop n) W (HXO.out.below hW) (HDR.out.below (HW5.out.trans (hW.mono HW5.out.size))))
            rw [hxY, HSP.out.2.2.1, resIf_zero rfl, HSP.out.2.2.2, ← HX.out, hlr] at cZ
            have HX5 := Lib.hid hx5
            have HXY := Lib.hid hxY
            have HD0' := Lib.hid (show Below w5.heap.size w5 w5.drew from below_drewN (Below.refl _ _) 1)
            have HD1' := Lib.hid (show Below w5.heap.size w5 (w5.alloc (.cells #[.slice none 0 0] 24)).drew from below_drewN ((Below.refl _ _).alloc (Nat.le_refl _) _) 1)
            have HO1' := Lib.hid (show (w5.alloc (.cells #[.slice none 0 0] 24)).drew.heap[w5.heap.size]? = some (.cells #[.slice none 0 0] 24 (0, 0)) from heap_alloc_new w5 _)
            clear hxo hx5 hxY
            go_upto_region 8 with fail
            go_cut [13, 14] from 53 to 60 (fun p e wx => ∃ B, p = .pointer (some ⟨B, 0, none⟩) ∧ e = .int .i64 0 ∧ Held w5 wx B X)
            case first =>
              go_region_with (go_at_call 10; with_reducible refine (cZ.out _ _ ?_).mono ?_; (first | exact HD0'.out | exact HD1'.out); rintro e w6 ⟨hb6, g, rfl, hr6⟩; (first | obtain ⟨o6, o7⟩ := cell_keep hb6 HO1'.out | skip))
              all_goals (go_wp2_with fail; go_meet; first | exact ⟨_, rfl, rfl, held_new HD0'.out hb6 hr6 HDD.out.1⟩ | exact ⟨_, rfl, rfl, held_in HD1'.out (Nat.le_refl _) HO1'.out hb6 hr6 HDD.out.1⟩)
            case rest =>
              obtain ⟨B6, rfl, rfl, hH⟩ := hcut
              obtain ⟨w6, rfl⟩ : ∃ W : World, W = wc := ⟨_, rfl⟩
              obtain ⟨y, y6, hyo, hyX, hy6, hyB⟩ := hH
              have hw6 := HX5.out.trans (hy6.mono HX5.out.size)
              have a6 := (hw6.cell (p := ⟨w3.heap.size, 0, none⟩) hw34).trans a4
              have cS := Lib.hid (SameFlash_any y a w6 hyo (HA4.out.below hw6))
              rw [hyX, HAX.out, show decide (X = X) = true from decide_eq_true rfl] at cS
              have HW6 := Lib.hid hw6
              clear hyo hyX hy6 hw6
              go_wp2_with (go_at_call 11; refine (cS.out).mono ?_; rintro e w7 ⟨rfl, hb7⟩)
              all_goals (go_meet; exact HW6.out.trans (hb7.mono HW6.out.size))
        · have hb0' : b0 = false := by rw [HB0.out]; simpa using t1
          subst hb0'
          go_wp2_with fail
          go_meet
          exact Below.refl _ _
      case rest =>
        obtain ⟨w5, rfl⟩ : ∃ W : World, W = wc := ⟨_, rfl⟩
        have HB5 := Lib.hid hcut
        clear hcut
        go_wp2_with fail
        go_loopw [15] (fun i wr => ∃ j : Nat, j ≤ l.length ∧ i = .int .i64 j ∧ Below w4.heap.size w4 wr) (fun i _ => l.length - (intOf i).toNat)
        case atStart => exact ⟨0, by omega, rfl, HB5.out⟩
        case round =>
          obtain ⟨j, hj, rfl, hb⟩ := hrel
          have HB := Lib.hid hb
          have hW := HB4.out.trans (hb.mono HB4.out.size)
          have HW := Lib.hid hW
          have ar := (hb.cell (p := ⟨w3.heap.size, 0, none⟩) (cell_lt' a4)).trans a4
          by_cases hlt : j < l.length
          · have hlt' : (j : Int) < l.length := by omega
            obtain ⟨ad, rfl, hab, h0, h1, h2⟩ := ded_at HD.out.row hW j hlt
            have HAR := Lib.hid (HA4.out.below hb)
            obtain ⟨z1, z2, z3, z4⟩ := HDD.out.2 _ (List.getElem_mem hlt)
            obtain ⟨Z1, hZ1⟩ : ∃ Z1, doneL X [l[j]'hlt] = Z1 := ⟨_, rfl⟩
            rw [hZ1] at z2 z3 z4
            have HZ1E := Lib.hid z2
            have HZ3 := Lib.hid z3
            have HZ4 := Lib.hid z4
            have HZ0 := Lib.hid z1
            have HZE := Lib.hid hZ1
            clear hb hW z1 z2 z3 z4 hZ1
            have cJ14 := Lib.hid (fun B W (hW : Below wr.heap.size wr W) (hdd : DedsOk W (some ⟨B, 0, none⟩) [l[j]'hlt]) => Do_any a (some ⟨B, 0, none⟩) 1 [l[j]'hlt] W (HAR.out.below hW) hdd)
            rw [HAX.out, HZ0.out, resIf_zero rfl] at cJ14
            change Hid (∀ B W, _ → _ → Calls _ _ #[_, .slice _ 1 1] W fun e w' => _ ∧ ∃ f' : Fl, _ ∧ FlRes w' _ f' (doneL X [l[j]'hlt])) at cJ14
            rw [HZE.out] at cJ14
            have hs14 : w3.heap.size < wr.heap.size := cell_lt' ar
            have hd14 : (ad.add (j * 3)).block < wr.heap.size := cell_lt' h0
            have b114 : Below wr.heap.size wr (wr.alloc (.cells #[.int .i64 (l[j]'hlt).kind, .int .i64 (l[j]'hlt).at_, .int .i64 (l[j]'hlt).value] 32)) := (Below.refl _ _).alloc (Nat.le_refl _) _
            have b214 : Below wr.heap.size wr (wr.alloc (.cells #[.slice none 0 0] 24)) := (Below.refl _ _).alloc (Nat.le_refl _) _
            have HA14 := Lib.hid (show Below wr.heap.size wr (wr.alloc (.cells #[.int .i64 (l[j]'hlt).kind, .int .i64 (l[j]'hlt).at_, .int .i64 (l[j]'hlt).value] 32)).drew ∧ DedsOk (wr.alloc (.cells #[.int .i64 (l[j]'hlt).kind, .int .i64 (l[j]'hlt).at_, .int .i64 (l[j]'hlt).value] 32)).drew (some ⟨wr.heap.size, 0, none⟩) [l[j]'hlt] from
              ⟨below_drewN b114 1, deds_block (show (wr.alloc (.cells #[.int .i64 (l[j]'hlt).kind, .int .i64 (l[j]'hlt).at_, .int .i64 (l[j]'hlt).value] 32)).drew.heap[wr.heap.size]? = _ from heap_alloc_new wr _) rfl (by simp)⟩)
            have HB14 := Lib.hid (show Below wr.heap.size wr ((wr.alloc (.cells #[.slice none 0 0] 24)).alloc (.cells #[.int .i64 (l[j]'hlt).kind, .int .i64 (l[j]'hlt).at_, .int .i64 (l[j]'hlt).value] 32)).drew ∧ DedsOk ((wr.alloc (.cells #[.slice none 0 0] 24)).alloc (.cells #[.int .i64 (l[j]'hlt).kind, .int .i64 (l[j]'hlt).at_, .int .i64 (l[j]'hlt).value] 32)).drew (some ⟨wr.heap.size + 1, 0, none⟩) [l[j]'hlt] ∧ ((wr.alloc (.cells #[.slice none 0 0] 24)).alloc (.cells #[.int .i64 (l[j]'hlt).kind, .int .i64 (l[j]'hlt).at_, .int .i64 (l[j]'hlt).value] 32)).drew.heap[wr.heap.size]? = some (.cells #[.slice none 0 0] 24 (0, 0)) from
              ⟨below_drewN (b214.alloc (by simp) _) 1, deds_block (show ((wr.alloc (.cells #[.slice none 0 0] 24)).alloc (.cells #[.int .i64 (l[j]'hlt).kind, .int .i64 (l[j]'hlt).at_, .int .i64 (l[j]'hlt).value] 32)).drew.heap[wr.heap.size + 1]? = _ from by show ((wr.alloc (.cells #[.slice none 0 0] 24)).alloc (.cells #[.int .i64 (l[j]'hlt).kind, .int .i64 (l[j]'hlt).at_, .int .i64 (l[j]'hlt).value] 32)).heap[wr.heap.size + 1]? = _; rw [show wr.heap.size + 1 = (wr.alloc (.cells #[.slice none 0 0] 24)).heap.size by simp]; exact heap_alloc_new _ _) rfl (by simp),
                (heap_alloc_old (wr.alloc (.cells #[.slice none 0 0] 24)) (.cells #[.int .i64 (l[j]'hlt).kind, .int .i64 (l[j]'hlt).at_, .int .i64 (l[j]'hlt).value] 32) (by simp)).trans (heap_alloc_new wr _)⟩)
            have HC14 := Lib.hid (show Below wr.heap.size wr ((wr.alloc (.cells #[.int .i64 (l[j]'hlt).kind, .int .i64 (l[j]'hlt).at_, .int .i64 (l[j]'hlt).value] 32)).alloc (.cells #[.slice none 0 0] 24)).drew ∧ DedsOk ((wr.alloc (.cells #[.int .i64 (l[j]'hlt).kind, .int .i64 (l[j]'hlt).at_, .int .i64 (l[j]'hlt).value] 32)).alloc (.cells #[.slice none 0 0] 24)).drew (some ⟨wr.heap.size, 0, none⟩) [l[j]'hlt] ∧ ((wr.alloc (.cells #[.int .i64 (l[j]'hlt).kind, .int .i64 (l[j]'hlt).at_, .int .i64 (l[j]'hlt).value] 32)).alloc (.cells #[.slice none 0 0] 24)).drew.heap[wr.heap.size + 1]? = some (.cells #[.slice none 0 0] 24 (0, 0)) from
              ⟨below_drewN (b114.alloc (by simp) _) 1, deds_block (show ((wr.alloc (.cells #[.int .i64 (l[j]'hlt).kind, .int .i64 (l[j]'hlt).at_, .int .i64 (l[j]'hlt).value] 32)).alloc (.cells #[.slice none 0 0] 24)).drew.heap[wr.heap.size]? = _ from (heap_alloc_old (wr.alloc (.cells #[.int .i64 (l[j]'hlt).kind, .int .i64 (l[j]'hlt).at_, .int .i64 (l[j]'hlt).value] 32)) (.cells #[.slice none 0 0] 24) (by simp)).trans (heap_alloc_new wr _)) rfl (by simp),
                by show ((wr.alloc (.cells #[.int .i64 (l[j]'hlt).kind, .int .i64 (l[j]'hlt).at_, .int .i64 (l[j]'hlt).value] 32)).alloc (.cells #[.slice none 0 0] 24)).heap[wr.heap.size + 1]? = _; rw [show wr.heap.size + 1 = (wr.alloc (.cells #[.int .i64 (l[j]'hlt).kind, .int .i64 (l[j]'hlt).at_, .int .i64 (l[j]'hlt).value] 32)).heap.size by simp]; exact heap_alloc_new _ _⟩)
            clear b114 b214
            go_upto_region 14 with fail
            go_cut [16, 17] from 79 to 88 (fun p e wx => ∃ B, p = .pointer (some ⟨B, 0, none⟩) ∧ e = .int .i64 0 ∧ Held wr wx B Z1)
            case first =>
              go_region_with (go_at_call 10; with_reducible refine (cJ14.out _ _ ?_ ?_).mono ?_; (first | exact HA14.out.1 | exact HB14.out.1 | exact HC14.out.1); (first | exact HA14.out.2 | exact HB14.out.2.1 | exact HC14.out.2.1); rintro e w6 ⟨hb6, g, rfl, hr6⟩; (first | obtain ⟨o6, o7⟩ := cell_keep hb6 HB14.out.2.2 | obtain ⟨o6, o7⟩ := cell_keep hb6 HC14.out.2.2 | skip))
              all_goals (go_wp2_with fail; go_meet; first | exact ⟨_, rfl, rfl, held_new HA14.out.1 hb6 hr6 HZ1E.out⟩ | exact ⟨_, rfl, rfl, held_in HB14.out.1 (Nat.le_refl _) HB14.out.2.2 hb6 hr6 HZ1E.out⟩ | exact ⟨_, rfl, rfl, held_in HC14.out.1 (Nat.le_succ _) HC14.out.2.2 hb6 hr6 HZ1E.out⟩)
            case rest =>
              obtain ⟨B6, rfl, rfl, hH⟩ := hcut
              obtain ⟨w6, rfl⟩ : ∃ W : World, W = wc := ⟨_, rfl⟩
              obtain ⟨x, x6, hxo, hxX, hx6, hxB⟩ := hH
              have HXO := Lib.hid hxo
              have HXX := Lib.hid hxX
              have HX6 := Lib.hid hx6
              have hl0 : (ad.add (j * 3)).block < wr.heap.size := cell_lt' h0
              have g0 := (hx6.cell (p := ad.add (j * 3)) hl0).trans h0
              have g1 := (hx6.cell (p := ⟨(ad.add (j * 3)).block, (ad.add (j * 3)).off + 1, none⟩) hl0).trans h1
              have g2 := (hx6.cell (p := ⟨(ad.add (j * 3)).block, (ad.add (j * 3)).off + 2, none⟩) hl0).trans h2
              clear h0 h1 h2 hl0 hxo hxX hx6
              have h0 := g0
              have cJ15 := Lib.hid (fun B W (hW : Below w6.heap.size w6 W) (hdd : DedsOk W (some ⟨B, 0, none⟩) [l[j]'hlt]) => Do_any x (some ⟨B, 0, none⟩) 1 [l[j]'hlt] W (HXO.out.below hW) hdd)
              rw [HXX.out, HZ3.out, resIf_zero rfl] at cJ15
              change Hid (∀ B W, _ → _ → Calls _ _ #[_, .slice _ 1 1] W fun e w' => _ ∧ ∃ f' : Fl, _ ∧ FlRes w' _ f' (doneL Z1 [l[j]'hlt])) at cJ15
              rw [HZ4.out] at cJ15
              have hs15 : B6 < w6.heap.size := cell_lt' x6
              have hd15 : (ad.add (j * 3)).block < w6.heap.size := cell_lt' h0
              have b115 : Below w6.heap.size w6 (w6.alloc (.cells #[.int .i64 (l[j]'hlt).kind, .int .i64 (l[j]'hlt).at_, .int .i64 (l[j]'hlt).value] 32)) := (Below.refl _ _).alloc (Nat.le_refl _) _
              have b215 : Below w6.heap.size w6 (w6.alloc (.cells #[.slice none 0 0] 24)) := (Below.refl _ _).alloc (Nat.le_refl _) _
              have HA15 := Lib.hid (show Below w6.heap.size w6 (w6.alloc (.cells #[.int .i64 (l[j]'hlt).kind, .int .i64 (l[j]'hlt).at_, .int .i64 (l[j]'hlt).value] 32)).drew ∧ DedsOk (w6.alloc (.cells #[.int .i64 (l[j]'hlt).kind, .int .i64 (l[j]'hlt).at_, .int .i64 (l[j]'hlt).value] 32)).drew (some ⟨w6.heap.size, 0, none⟩) [l[j]'hlt] from
                ⟨below_drewN b115 1, deds_block (show (w6.alloc (.cells #[.int .i64 (l[j]'hlt).kind, .int .i64 (l[j]'hlt).at_, .int .i64 (l[j]'hlt).value] 32)).drew.heap[w6.heap.size]? = _ from heap_alloc_new w6 _) rfl (by simp)⟩)
              have HB15 := Lib.hid (show Below w6.heap.size w6 ((w6.alloc (.cells #[.slice none 0 0] 24)).alloc (.cells #[.int .i64 (l[j]'hlt).kind, .int .i64 (l[j]'hlt).at_, .int .i64 (l[j]'hlt).value] 32)).drew ∧ DedsOk ((w6.alloc (.cells #[.slice none 0 0] 24)).alloc (.cells #[.int .i64 (l[j]'hlt).kind, .int .i64 (l[j]'hlt).at_, .int .i64 (l[j]'hlt).value] 32)).drew (some ⟨w6.heap.size + 1, 0, none⟩) [l[j]'hlt] ∧ ((w6.alloc (.cells #[.slice none 0 0] 24)).alloc (.cells #[.int .i64 (l[j]'hlt).kind, .int .i64 (l[j]'hlt).at_, .int .i64 (l[j]'hlt).value] 32)).drew.heap[w6.heap.size]? = some (.cells #[.slice none 0 0] 24 (0, 0)) from
                ⟨below_drewN (b215.alloc (by simp) _) 1, deds_block (show ((w6.alloc (.cells #[.slice none 0 0] 24)).alloc (.cells #[.int .i64 (l[j]'hlt).kind, .int .i64 (l[j]'hlt).at_, .int .i64 (l[j]'hlt).value] 32)).drew.heap[w6.heap.size + 1]? = _ from by show ((w6.alloc (.cells #[.slice none 0 0] 24)).alloc (.cells #[.int .i64 (l[j]'hlt).kind, .int .i64 (l[j]'hlt).at_, .int .i64 (l[j]'hlt).value] 32)).heap[w6.heap.size + 1]? = _; rw [show w6.heap.size + 1 = (w6.alloc (.cells #[.slice none 0 0] 24)).heap.size by simp]; exact heap_alloc_new _ _) rfl (by simp),
                  (heap_alloc_old (w6.alloc (.cells #[.slice none 0 0] 24)) (.cells #[.int .i64 (l[j]'hlt).kind, .int .i64 (l[j]'hlt).at_, .int .i64 (l[j]'hlt).value] 32) (by simp)).trans (heap_alloc_new w6 _)⟩)
              have HC15 := Lib.hid (show Below w6.heap.size w6 ((w6.alloc (.cells #[.int .i64 (l[j]'hlt).kind, .int .i64 (l[j]'hlt).at_, .int .i64 (l[j]'hlt).value] 32)).alloc (.cells #[.slice none 0 0] 24)).drew ∧ DedsOk ((w6.alloc (.cells #[.int .i64 (l[j]'hlt).kind, .int .i64 (l[j]'hlt).at_, .int .i64 (l[j]'hlt).value] 32)).alloc (.cells #[.slice none 0 0] 24)).drew (some ⟨w6.heap.size, 0, none⟩) [l[j]'hlt] ∧ ((w6.alloc (.cells #[.int .i64 (l[j]'hlt).kind, .int .i64 (l[j]'hlt).at_, .int .i64 (l[j]'hlt).value] 32)).alloc (.cells #[.slice none 0 0] 24)).drew.heap[w6.heap.size + 1]? = some (.cells #[.slice none 0 0] 24 (0, 0)) from
                ⟨below_drewN (b115.alloc (by simp) _) 1, deds_block (show ((w6.alloc (.cells #[.int .i64 (l[j]'hlt).kind, .int .i64 (l[j]'hlt).at_, .int .i64 (l[j]'hlt).value] 32)).alloc (.cells #[.slice none 0 0] 24)).drew.heap[w6.heap.size]? = _ from (heap_alloc_old (w6.alloc (.cells #[.int .i64 (l[j]'hlt).kind, .int .i64 (l[j]'hlt).at_, .int .i64 (l[j]'hlt).value] 32)) (.cells #[.slice none 0 0] 24) (by simp)).trans (heap_alloc_new w6 _)) rfl (by simp),
                  by show ((w6.alloc (.cells #[.int .i64 (l[j]'hlt).kind, .int .i64 (l[j]'hlt).at_, .int .i64 (l[j]'hlt).value] 32)).alloc (.cells #[.slice none 0 0] 24)).heap[w6.heap.size + 1]? = _; rw [show w6.heap.size + 1 = (w6.alloc (.cells #[.int .i64 (l[j]'hlt).kind, .int .i64 (l[j]'hlt).at_, .int .i64 (l[j]'hlt).value] 32)).heap.size by simp]; exact heap_alloc_new _ _⟩)
              clear b115 b215
              go_upto_region 15 with fail
              go_cut [18, 19] from 89 to 98 (fun p e wx => ∃ B, p = .pointer (some ⟨B, 0, none⟩) ∧ e = .int .i64 0 ∧ Held w6 wx B Z1)
              case first =>
                go_region_with (go_at_call 10; with_reducible refine (cJ15.out _ _ ?_ ?_).mono ?_; (first | exact HA15.out.1 | exact HB15.out.1 | exact HC15.out.1); (first | exact HA15.out.2 | exact HB15.out.2.1 | exact HC15.out.2.1); rintro e w6 ⟨hb6, g, rfl, hr6⟩; (first | obtain ⟨o6, o7⟩ := cell_keep hb6 HB15.out.2.2 | obtain ⟨o6, o7⟩ := cell_keep hb6 HC15.out.2.2 | skip))
                all_goals (go_wp2_with fail; go_meet; first | exact ⟨_, rfl, rfl, held_new HA15.out.1 hb6 hr6 HZ1E.out⟩ | exact ⟨_, rfl, rfl, held_in HB15.out.1 (Nat.le_refl _) HB15.out.2.2 hb6 hr6 HZ1E.out⟩ | exact ⟨_, rfl, rfl, held_in HC15.out.1 (Nat.le_succ _) HC15.out.2.2 hb6 hr6 HZ1E.out⟩)
              case rest =>
                obtain ⟨B7, rfl, rfl, hH⟩ := hcut
                obtain ⟨w7, rfl⟩ : ∃ W : World, W = wc := ⟨_, rfl⟩
                obtain ⟨y, y7, hyo, hyX, hy7, hyB⟩ := hH
                have x7 := (hy7.cell (p := ⟨B6, 0, none⟩) (cell_lt' x6)).trans x6
                have cS := Lib.hid (SameFlash_any x y w7 (HXO.out.below hy7) hyo)
                rw [hyX, HXX.out, show decide (Z1 = Z1) = true from decide_eq_true rfl] at cS
                have HW7 := Lib.hid (HB.out.trans ((HX6.out.trans (hy7.mono HX6.out.size)).mono HB.out.size))
                clear hyo hyX hy7
                go_wp2_with (go_at_call 11; refine (cS.out).mono ?_; rintro e w8 ⟨rfl, hb8⟩)
                go_roundw
                case rel => exact ⟨j + 1, by omega, by go_num, HW7.out.trans (hb8.mono HW7.out.size)⟩
                case measure => (simp [intOf]; try omega)
          · have e5 := Lib.hid (dedsErr_block X block HDD.out.1)
            obtain ⟨e2, he2⟩ : ∃ e, e = dedsErr X [⟨2, block, 0⟩] := ⟨_, rfl⟩
            obtain ⟨w5', hw5⟩ : ∃ x, x = wr.alloc (.cells #[.int .i64 2, .int .i64 block, .int .i64 0] 32) := ⟨_, rfl⟩
            have hb5 : Below wr.heap.size wr w5' := hw5 ▸ (Below.refl _ _).alloc (Nat.le_refl _) _
            have hd5 := deds_block (l := [⟨2, block, 0⟩]) (show w5'.heap[wr.heap.size]? = _ from hw5 ▸ heap_alloc_new _ _) rfl (by simp)
            have cE := Do_any a (some ⟨wr.heap.size, 0, none⟩) 1 [⟨2, block, 0⟩] w5' ((HA4.out.below hb).below hb5) hd5
            rw [HAX.out, ← he2] at cE
            rw [← he2] at e5
            change Calls _ _ #[_, .slice _ 1 1] w5' _ at cE
            have CE := Lib.hid cE
            have hw5' := hw5.symm
            have HB5' := Lib.hid (HW.out.trans (hb5.mono HW.out.size))
            have HE2 := Lib.hid he2
            clear hb hW hw5 hb5 hd5 he2 cE
            by_cases t3 : e2 = 0
            · subst t3
              rw [resIf_zero rfl] at CE
              have hd0 := HE2.out.symm
              rw [deds_one, if_pos HDD.out.1] at hd0
              obtain ⟨n, hn⟩ : ∃ n : Nat, block = n := ⟨block.toNat, by rcases ded_place hd0 with ⟨hk, _⟩ | ⟨_, _, h0, _⟩; (exact absurd (show (2 : Int) = 1 from hk) (by decide)); simp only at h0; omega⟩
              have hn32 : n < 32 := by
                have h1 := (flErr_ok.1 HDD.out.1).1.2
                rcases ded_place hd0 with ⟨hk, _⟩ | ⟨_, h2, _⟩
                · exact absurd (show (2 : Int) = 1 from hk) (by decide)
                · simp only at h2; omega
              obtain ⟨Zb, hZb⟩ : ∃ Z, Z = doneL X [⟨2, block, 0⟩] := ⟨_, rfl⟩
              have hZf : flErr Zb = 0 := by rw [hZb]; exact turned_ok _ HDD.out.1 hd0
              have hZs : readErr Zb (block * 128) 128 = 0 ∧ readStr Zb (block * 128) 128 = blank := by
                have hnl : Zb.length = X.length := by rw [hZb, show doneL X [⟨2, block, 0⟩] = turned X ⟨2, block, 0⟩ (fun _ => 255) from rfl]; exact turned_length ..
                have h2 : n < X.length := by
                  rcases ded_place hd0 with ⟨hk, _⟩ | ⟨_, h2, _⟩
                  · exact absurd (show (2 : Int) = 1 from hk) (by decide)
                  · simp only at h2; omega
                have e0 : readErr Zb (block * 128) 128 = 0 := by
                  unfold readErr
                  rw [if_pos hZf, if_neg (by rw [hnl]; omega)]
                refine ⟨e0, ?_⟩
                unfold readStr
                rw [if_pos e0, show (block * 128).toNat = 128 * block.toNat by omega, show (128 : Int).toNat = 128 from rfl, hZb]
                show ofBytes (((flat (done1 X ⟨2, block, 0⟩)).drop (128 * block.toNat)).take 128) = _
                rw [erased HDD.out.1 hd0]; rfl
              rw [← hZb] at CE
              obtain ⟨S, hS⟩ : ∃ S, S = blank := ⟨_, rfl⟩
              have hSz : S.size = 128 := by rw [hS]; rfl
              have HI := Lib.hid (fun (j : Nat) (hj : j < 128) (W : World) => (show (Instr.index 9 (.string S) (.int .i64 (j : Int))).run Try.prog W = .ok (.int .u8 255) W from by
                rw [run_index_byte S j (by rw [hSz]; exact hj) W, hS]
                have : (bytesOf blank).getD j 0 = 255 := by
                  rw [show bytesOf blank = blankB from bytes_of _, List.getD_eq_getElem?_getD]
                  unfold blankB
                  rw [List.getElem?_replicate, if_pos hj]; rfl
                rw [this]; rfl))
              rw [hn] at hZs hw5'
              subst hn
              have q1 : wrap64 ((n : Int) * 128) = (n : Int) * 128 := IntWalk.wrap64_in _ (by omega)
              have HZS := Lib.hid hZs
              have HZF := Lib.hid hZf
              have HSB := Lib.hid hS
              clear hd0 hZb hZf hZs hS
              go_wp2_with (first
                | (go_at_call 10; refine (CE.out).mono ?_; rintro e w6 ⟨hb6, g, rfl, hr6⟩
                   obtain ⟨w7, hw7⟩ : ∃ x, x = w6.alloc (.cells #[.slice g.a g.bl.length g.c] 24) := ⟨_, rfl⟩
                   obtain ⟨g7, _, hz7, hb7⟩ := box_new hw7
                   have hw7' := hw7.symm
                   have cR := Read_any g ((n : Int) * 128) 128 w7 ((hr6.ok (.inr HZF.out)).below hb7) (by omega) (by omega)
                   rw [hr6.is, HZS.out.1, HZS.out.2, ← HSB.out] at cR
                   have CR := Lib.hid cR
                   have HB7 := Lib.hid (HB5'.out.trans ((hb6.trans (hb7.mono hb6.size)).mono HB5'.out.size))
                   clear hw7 hb6 hb7 hr6 cR hz7)
                | (go_at_call 12; refine (CR.out).mono ?_; rintro e w8 ⟨rfl, hb8⟩))
              have HB8 := Lib.hid (HB7.out.trans (hb8.mono HB7.out.size))
              clear hb8
              go_loopw [22] (fun i wr => ∃ j : Nat, j ≤ 128 ∧ i = .int .i64 j ∧ w8 = wr) (fun i _ => 128 - (intOf i).toNat)
              case atStart => exact ⟨0, by omega, rfl, rfl⟩
              case round =>
                obtain ⟨j, hj, rfl, rfl⟩ := hrel
                by_cases hlt : j < 128
                · have hlt' : (j : Int) < 128 := by omega
                  have hix := HI.out j hlt
                  go_wp2_with fail
                  go_roundw
                  case rel => exact ⟨j + 1, by omega, by go_num, by first | rfl | trivial⟩
                  case measure => (simp [intOf]; try omega)
                · obtain rfl : j = 128 := by omega
                  go_wp2_with fail
                  go_ret
                  exact ⟨rfl, HB8.out⟩
            · have u3 : (e2 != 0) = true := by simp [t3]
              have u4 : e2 = 3 := by have := e5.out; omega
              subst u4
              clear t3
              go_wp2_with (go_at_call 10; refine (CE.out).mono ?_; rintro e w6 ⟨hb6, g, rfl, hr6⟩)
              go_ret
              exact ⟨rfl, HB5'.out.trans ((hb6.alloc hb6.size _).mono HB5'.out.size)⟩
  · have u2 : (E != 0) = true := by simp [t0]
    have HE0 := Lib.hid t0
    rw [resIf_ne t0] at cD
    clear t0
    go_enter Try.func3, Try.ntmps3
    go_wp2_with (first
      | (go_at_call 9; refine (cB.out _).mono ?_; rintro e w2 ⟨rfl, hb2⟩
         have f2 := (hb2.cell (p := ⟨w.heap.size, 0, none⟩) (by have := HZ1.out; simp; omega)).trans f0
         have HB2 := Lib.hid (HB1.out.trans (hb2.mono HB1.out.size))
         clear hb2)
      | (go_at_call 10; refine (cD.out _ HB2.out).mono ?_; rintro e w3 ⟨hb3, a, rfl, hr3⟩
         have hal : a.bl.length = 0 := by rw [hr3.is]; rfl
         have HB3 := Lib.hid (HB2.out.trans (hb3.mono HB2.out.size))
         clear hb3 hr3))
    go_ret
    exact ⟨rfl, HB3.out.alloc HB3.out.size _⟩

set_option maxRecDepth 100000 in
theorem flashErased_lifted (os : Os) (started : os.Started) (H : Type) (enc : TypeId × Value → H) :
    ReturnsInHanded {} Try.checked os 3 .any (Rows.flashErasedSpec.pre6 enc Try.prog Try.f3 Rows.flashErasedRow.domain false) (Rows.flashErasedSpec.post enc Try.prog Try.f3 false true false false) := by
  refine returnsInHanded_of_change_sized (C := Try.checked) Try.own started (by kernel_rfl) Try.func3
    (ChangeSpec.witness6 (enc := enc) (C := Try.checked) false ⟨#[], #[.agg #[.slice none 0 0], .slice none 0 0, .int .i64 0, .int .i64 0], []⟩ 8 (by kernel_rfl) (by kernel_rfl) (by kernel_rfl) (by kernel_rfl)) ?_
  intro W base args ds gs before hval0 hW hcnd hsz0 _
  have hval : ∀ (j : Nat) t v, Try.f3.params[j]? = some t → args[j]? = some v → Value.okWide Try.prog W .any base t v := hval0
  have hsz : (DataW.weightsEach Try.prog (Try.f3.params.toList ++ Rows.flashErasedSpec.plain.varTypes Try.prog) (ds ++ gs)).all (· ≤ reachBytes) = true := hsz0
  have hW' := hW
  obtain ⟨p, q, hA0, hV, rfl, hfz, hnd⟩ := hW
  have hA : DataW.TrodAll enc Try.prog W 0 (fun _ => true) true Try.f3.params.toList args.toList ds p := hA0
  rw [Try.params3] at hA hval hsz
  obtain ⟨v0, vs0, d0, ds0, p0, q0, hargs, rfl, rfl, h0, r0⟩ := trodAll_cons hA
  obtain ⟨v1, vs1, d1, ds1, p1, q1, rfl, rfl, rfl, h1, r1⟩ := trodAll_cons r0
  obtain ⟨v2, vs2, d2, ds2, p2, q2, rfl, rfl, rfl, h2, r2⟩ := trodAll_cons r1
  obtain ⟨v3, vs3, d3, ds3, p3, q3, rfl, rfl, rfl, h3, r3⟩ := trodAll_cons r2
  obtain ⟨rfl, rfl, rfl⟩ := trodAll_nil r3
  obtain rfl : args = #[v0, v1, v2, v3] := by cases args; simp_all
  obtain ⟨rfl, rfl⟩ := trodVars_none hV
  have ft0 := fits_each hsz (j := 0) rfl rfl
  obtain ⟨f, rfl, ok0⟩ := open_Flash (hval 0 24 v0 rfl rfl) h0 ft0
  have ft1 := fits_each hsz (j := 1) rfl rfl
  obtain ⟨lA, l, lc, rfl, ok1⟩ := open_Deeds (hval 1 25 v1 rfl rfl) h1 ft1
  obtain ⟨cut, rfl, rfl, rfl, w2⟩ := open_int Try.underlying3 (hval 2 3 v2 rfl rfl) h2
  obtain ⟨block, rfl, rfl, rfl, w3⟩ := open_int Try.underlying3 (hval 3 3 v3 rfl rfl) h3
  refine (FlashErased_any f lA l lc cut block W ok0 ok1 (wf_i64 w2) (wf_i64 w3)).mono fun e W' ⟨he, hb⟩ => ?_
  subst he
  exact ⟨_, rfl, law_post Try.laidOut hW' rfl (by decide +kernel) rfl Try.underlying4 rfl rfl rfl hb⟩

theorem flashErased_holds : Rows.FlashErasedSaid :=
  OpenClaim.holds_of_wide 3 Try.f3 rfl rfl rfl rfl rfl rfl rfl ⟨rfl, rfl, rfl, rfl, rfl⟩ rfl rfl rfl rfl rfl (by kernel_rfl) Try.func3 (by kernel_rfl)
    (of_decide_eq_true (by kernel_rfl)) (by unfold Func.isWrapper; first | (rw [if_pos (by decide +kernel)]; kernel_rfl) | (rw [if_neg (by decide +kernel)]; exact ⟨rfl, rfl⟩))
    (fun os started H enc _ => flashErased_lifted os started H enc)
#print axioms flashErased_holds

end Go.Proofs.Ytpmjgkngkaleeaa
