import Derived.Test.YtpmjgkngkaleeaaOpenT
import Derived.Test.YtpmjgkngkaleeaaJourCrash
/- JournalOpens: whatever crash there is, all records that were there are, and this one, whole or not at all, however often it is asked; behind the last deed it is there; deeds lead to what is answered; ErrSpace is told only where there may be none. No condition. -/
namespace Go.Proofs.Ytpmjgkngkaleeaa
open Go.ChangeShapes Go.WideShapes Go.ChangeAt Go.RowKit Go.WideMaps Go.WideElems
open Go.ChangeMaps (setBlock shut_map_nil open_string shut_string keptBut_setBlock frozen?_setBlock heap_setBlock_same)

theorem int_at {w w' : World} {A : Option Addr} {l : List Int} (h : Row intCells 1 w A l) (hb : Below w.heap.size w w') (i : Nat) (hi : i < l.length) :
    ∃ ad, A = some ad ∧ ad.block < w.heap.size ∧ w'.cell? (ad.add i) = some (.int .i64 l[i]) := by
  obtain ⟨ad, rfl, hab, hc⟩ := Row.at_ (enc := intCells) (k := 1) (fun _ => rfl) h i hi
  have e0 := hc 0 _ rfl
  rw [add_zero_, Nat.mul_one] at e0
  exact ⟨ad, rfl, hab, (hb.cell (by rw [block_of_add]; exact hab)).trans e0⟩
theorem fmt_bad {b : Int} (h : b < 3 ∨ 32 < b) : fmtErr b = 3 := by
  unfold fmtErr newErr
  split
  · rfl
  · rw [if_neg (by omega)]
theorem fmt_good {b : Int} (h1 : 3 ≤ b) (h2 : b ≤ 32) : fmtErr b = 0 := by
  unfold fmtErr newErr
  rw [if_neg (by omega), if_pos (by omega)]
theorem rep_ok {n : Nat} (h1 : 3 ≤ n) (h2 : n ≤ 32) : flErr (List.replicate n blank) = 0 :=
  flErr_ok.2 ⟨by rw [List.length_replicate]; omega, fun s hs => by rw [(List.mem_replicate.1 hs).2]; rfl⟩
theorem Row.take_ {α : Type} {enc : α → List Value} {k : Nat} (hk : ∀ x, (enc x).length = k) {w : World} {A : Option Addr} {l : List α} (h : Row enc k w A l) (n : Nat) : Row enc k w A (l.take n) := by
  refine ⟨flat_length hk _, fun hn => ?_⟩
  rw [List.length_take] at hn
  obtain ⟨ad, e, hb, hc⟩ := h.2 (by omega)
  refine ⟨ad, e, hb, fun j u hu => hc j u ?_⟩
  have : l.flatMap enc = (l.take n).flatMap enc ++ (l.drop n).flatMap enc := by rw [← List.flatMap_append, List.take_append_drop]
  rw [this, List.getElem?_append_left]
  · exact hu
  · rcases Nat.lt_or_ge j ((l.take n).flatMap enc).length with hlt | hge
    · exact hlt
    · rw [List.getElem?_eq_none hge] at hu; cases hu
theorem own_cap {w : World} {base size n c : Nat} {e : TypeId} {A : Option Addr} {xs : List Value} (h : w.ownsRow base e size (.slice A n c) n xs) : n ≤ c := by
  rcases h.2 with ⟨e1, e2⟩ | ⟨g, cap, cur, e1, _, _, hc, _⟩
  · omega
  · injection e1 with _ _ e3; omega
theorem DoneOf_fl (f : Fl) (A : Option Addr) (c : Nat) (l : List Ded) (w : World) (h : f.ok w) (hf : flErr f.bl = 0) (hd : ∀ d ∈ l, dedErr f.bl.length d = 0) (hl : DedsOk w A l) :
    Calls Try.prog 19 #[f.v, .slice A l.length c] w fun e w' => Below w.heap.size w w' ∧ ∃ y : Fl, e = .returned y.v ∧ FlRes w' w.heap.size y (doneL f.bl l) := by
  refine (DoneOf_any f A c l w h hf hd hl).mono fun e w' ⟨hb, A', c', he, hc, ho⟩ => ⟨hb, ⟨doneL f.bl l, A', c'⟩, ?_, ?_, ?_, rfl⟩
  · rw [he]; show _ = Ending.returned (.agg #[.slice A' (doneL f.bl l).length c']); rw [(doneL_ok hf hd).2]
  · show TOwn _ _ (.slice A' (doneL f.bl l).length c') _; rw [(doneL_ok hf hd).2]; exact ho
  · show (doneL f.bl l).length ≤ c'; rw [(doneL_ok hf hd).2]; exact hc
theorem TornOf_fl (f : Fl) (d : Ded) (s : ByteArray) (w : World) (h : f.ok w) (hf : flErr f.bl = 0) (hd : dedErr f.bl.length d = 0) (hs : s.size ≤ big) :
    Calls Try.prog 20 #[f.v, d.v, .string s] w fun e w' => Below w.heap.size w w' ∧ ∃ y : Fl, e = .returned y.v ∧ FlRes w' w.heap.size y (tornL f.bl d (bytesOf s)) := by
  have hlen : (tornL f.bl d (bytesOf s)).length = f.bl.length := turned_length ..
  refine (TornOf_any f d s w h hf hd hs).mono fun e w' ⟨hb, A', c', he, hc, ho⟩ => ⟨hb, ⟨tornL f.bl d (bytesOf s), A', c'⟩, ?_, ?_, ?_, rfl⟩
  · rw [he]; show _ = Ending.returned (.agg #[.slice A' (tornL f.bl d (bytesOf s)).length c']); rw [hlen]
  · show TOwn _ _ (.slice A' (tornL f.bl d (bytesOf s)).length c') _; rw [hlen]; exact ho
  · show (tornL f.bl d (bytesOf s)).length ≤ c'; rw [hlen]; exact hc
/-- a flash in a cell made since -/
structure YMem (wr wx : World) (B : Nat) (y : Fl) (Y : List ByteArray) : Prop where
  cell : wx.heap[B]? = some (flc' y)
  lt : wr.heap.size ≤ B
  res : FlRes wx wr.heap.size y Y
  below : Below wr.heap.size wr wx
theorem YMem.later {wr wx w' : World} {B : Nat} {y : Fl} {Y : List ByteArray} (h : YMem wr wx B y Y) (hb : Below wx.heap.size wx w') : YMem wr w' B y Y :=
  ⟨(hb.block _ (Array.getElem?_eq_some_iff.1 h.cell).1).trans h.cell, h.lt, ⟨h.res.own.below hb (Nat.le_refl _), h.res.cap, h.res.is⟩, h.below.trans (hb.mono h.below.size)⟩
theorem FlRes.more_ {w : World} {b b' : Nat} {f : Fl} {l : List ByteArray} (h : FlRes w b f l) (hb : b' ≤ b) : FlRes w b' f l := ⟨h.own.more hb, h.cap, h.is⟩
theorem YMem.new {wr w6 : World} {Y : List ByteArray} {y : Fl} (hb : Below wr.heap.size wr w6) (hr : FlRes w6 wr.heap.size y Y) : YMem wr (w6.alloc (.cells #[.slice y.a y.bl.length y.c] 24)) w6.heap.size y Y := by
  have ha : Below w6.heap.size w6 (w6.alloc (.cells #[.slice y.a y.bl.length y.c] 24)) := (Below.refl _ _).alloc (Nat.le_refl _) _
  exact ⟨heap_alloc_new _ _, hb.size, ⟨hr.own.below ha (Nat.le_refl _), hr.cap, hr.is⟩, hb.trans (ha.mono hb.size)⟩
theorem YMem.old {wr w6 : World} {Y : List ByteArray} {y : Fl} {B : Nat} {x : Value} (hz : w6.heap[B]? = some (.cells #[x] 24 (0, 0))) (hB : wr.heap.size ≤ B) (hb : Below wr.heap.size wr w6) (hr : FlRes w6 wr.heap.size y Y) : YMem wr (w6.setCell ⟨B, 0, none⟩ (.slice y.a y.bl.length y.c)) B y Y :=
  ⟨heap_setCell_same w6 B 0 _ _ _ hz, hB, ⟨hr.own.set_other hz (by decide) 0 _, hr.cap, hr.is⟩, hb.setCell (p := ⟨B, 0, none⟩) hB _⟩
def AtCut (wr : World) (Y : List ByteArray) (p : Value) (wx : World) : Prop := ∃ (B : Nat) (y : Fl), p = .pointer (some ⟨B, 0, none⟩) ∧ YMem wr wx B y Y
def AtTorn (wr : World) (F : List ByteArray) (D : List Ded) (q B : Nat) (p : Value) (wx : World) : Prop := p = .pointer (some ⟨B, 0, none⟩) ∧ ∃ (y : Fl) (Y : List ByteArray), YMem wr wx B y Y ∧ Crash F D q Y
def AtK (n : Nat) (v : Value) : Prop := ∃ q : Nat, v = .int .i64 (q : Int) ∧ q ≤ n
/-- what an Append in a round leaves -/
structure AppMem (wr wx : World) (B : Nat) (f' : Fl) (FA : List ByteArray) (A : Option Addr) (c : Nat) (D : List Ded) : Prop where
  cell : wx.heap[B]? = some (flc' f')
  lt : wr.heap.size ≤ B
  res : FlRes wx wr.heap.size f' FA
  deeds : DOwn wx wr.heap.size (.slice A D.length c) D
  below : Below wr.heap.size wr wx
theorem AppMem.later {wr wx w' : World} {B : Nat} {f' : Fl} {FA : List ByteArray} {A : Option Addr} {c : Nat} {D : List Ded} (h : AppMem wr wx B f' FA A c D) (hb : Below wx.heap.size wx w') : AppMem wr w' B f' FA A c D :=
  ⟨(hb.block _ (Array.getElem?_eq_some_iff.1 h.cell).1).trans h.cell, h.lt, ⟨h.res.own.below hb (Nat.le_refl _), h.res.cap, h.res.is⟩, h.deeds.below hb (Nat.le_refl _), h.below.trans (hb.mono h.below.size)⟩

set_option maxHeartbeats 16000000 in
set_option maxRecDepth 100000 in
theorem JournalOpens_any (b : Int) (rA : Option Addr) (rl : List ByteArray) (rc : Nat) (aA : Option Addr) (al : List Int) (ac : Nat) (pA : Option Addr) (pl : List ByteArray) (pc : Nat) (w : World) (h : TextsOk w rA rl ∧ rl.length ≤ rc) (h' : IntsOk w aA al ∧ al.length ≤ ac) (h'' : TextsOk w pA pl ∧ pl.length ≤ pc) :
    Calls Try.prog 8 #[.int .i64 b, .slice rA rl.length rc, .slice aA al.length ac, .slice pA pl.length pc] w fun e w' => e = .returned (.bool true) ∧ Below w.heap.size w w' := by
  have hn63 := h.1.len
  have ha63 := h'.1.len
  have hp63 := h''.1.len
  unfold big at hn63 ha63 hp63
  have HROW := Lib.hid h.1.row
  have HEACH := Lib.hid h.1.each
  have HAROW := Lib.hid h'.1.row
  have HAEACH := Lib.hid h'.1.each
  have HPROW := Lib.hid h''.1.row
  have HPEACH := Lib.hid h''.1.each
  have cJ := Lib.hid (fun W => journalBegun_any W)
  have cB := Lib.hid (fun W => flashBegun_any W)
  have cN := Lib.hid (fun W => Format_any b W)
  clear h h' h''
  by_cases tb : b < 3 ∨ 32 < b
  · rw [fmt_bad tb, resIf_ne (by decide)] at cN
    have key : (b < 3) ∨ (¬ b < 3 ∧ 32 < b) := by omega
    rcases key with t1 | ⟨t1, t2⟩
    all_goals (
      clear tb
      go_enter Try.func8, Try.ntmps8
      go_wp2_with (first
        | (go_at_call 25; refine (cJ.out _).mono ?_; rintro e w1 ⟨rfl, hb1⟩)
        | (go_at_call 9; refine (cB.out _).mono ?_; rintro e w2 ⟨rfl, hb2⟩)
        | (go_at_call 26; refine (cN.out _).mono ?_; rintro e w3 ⟨hb3, g0, rfl, hr3⟩
           have hl0 : g0.bl.length = 0 := by rw [hr3.is]; rfl))
      go_ret
      exact ⟨by first | rfl | simp, (hb1.trans (hb2.mono hb1.size)).trans ((hb3.trans ((Below.refl _ _).alloc hb3.size _)).mono (hb1.trans (hb2.mono hb1.size)).size)⟩)
  · obtain ⟨nb, rfl⟩ : ∃ nb : Nat, b = nb := ⟨b.toNat, by omega⟩
    rw [fmt_good (by omega) (by omega), resIf_zero rfl, Int.toNat_natCast] at cN
    obtain ⟨F0, hF0⟩ : ∃ F, F = List.replicate nb blank := ⟨_, rfl⟩
    rw [← hF0] at cN
    have HF0 := Lib.hid (show flErr F0 = 0 by rw [hF0]; exact rep_ok (by omega) (by omega))
    have HFL := Lib.hid (show F0.length = nb by rw [hF0, List.length_replicate])
    have HO0 := Lib.hid (show OInv nb F0 [] 0 0 256 0 from ⟨HF0.out, HFL.out, by rw [hF0]; exact load_blank nb, by omega, Nat.le_refl _⟩)
    have hnb1 : 3 ≤ nb := by omega
    have hnb2 : nb ≤ 32 := by omega
    have cF := Lib.hid (fun (g : Fl) W hW => CheckFlash_any g W hW)
    clear hF0 tb
    go_enter Try.func8, Try.ntmps8
    go_wp2_with (first
      | (go_at_call 25; refine (cJ.out _).mono ?_; rintro e w1 ⟨rfl, hb1⟩)
      | (go_at_call 9; refine (cB.out _).mono ?_; rintro e w2 ⟨rfl, hb2⟩
         have HB2 := Lib.hid (hb1.trans (hb2.mono hb1.size))
         clear hb1 hb2)
      | (go_at_call 26; refine (cN.out _).mono ?_; rintro e w3 ⟨hb3, g0, rfl, hr3⟩
         obtain ⟨w4, hw4⟩ : ∃ x, x = w3.alloc (.cells #[.slice g0.a g0.bl.length g0.c] 24) := ⟨_, rfl⟩
         obtain ⟨y4, hY4, hz4, hb4⟩ := box_new hw4
         have hw4' := hw4.symm
         have hl0 : g0.bl.length = nb := by rw [hr3.is, HFL.out]
         have HM4 := Lib.hid (show OMem w3 w4 w2.heap.size g0 (.slice none 0 0) F0 [] from
           ⟨hY4, ⟨hr3.own.below hb4 (Nat.le_refl _), hr3.cap, hr3.is⟩, TOwn.nil _ _, hb4⟩)
         have cK := cF.out g0 w4 ((hr3.ok (.inr HF0.out)).below hb4)
         rw [hr3.is, HF0.out] at cK
         unfold Fl.v at cK
         rw [hl0] at cK hw4' y4
         have CK := Lib.hid cK
         have HB3 := Lib.hid (HB2.out.trans (hb3.mono HB2.out.size))
         have HZ3 := Lib.hid hb3.size
         clear hw4 hY4 hz4 hb3 hb4 hr3 cK)
      | (go_at_call 15; refine (CK.out).mono ?_; rintro e w5 ⟨rfl, hb5⟩
         have HM5 := Lib.hid (HM4.out.later hb5)
         have y5 := cell_of_heap HM5.out.cell 0
         simp only [List.getElem?_toArray, List.getElem?_cons_zero] at y5
         clear hb5))
    go_loopw [11, 12, 13] (fun v11 nd i wr => ORel w3 w2.heap.size nb rl.length v11 nd i wr) (fun _ _ i _ => rl.length - (intOf i).toNat)
    case atStart => exact ⟨0, g0, F0, [], 0, 0, 256, rfl, Nat.zero_le _, rfl, by omega, by omega, HO0.out, HM5.out⟩
    case round =>
      obtain ⟨j, g, F, R, k, e, N, rfl, hj, rfl, hN, hj30, hI, hM⟩ := hrel
      have HI := Lib.hid hI
      have HM := Lib.hid hM
      have y0 := cell_of_heap hM.cell 0
      have yf := free_of_heap hM.cell 0
      simp only [List.getElem?_toArray, List.getElem?_cons_zero] at y0
      have HBR := Lib.hid (HB3.out.trans (hM.below.mono HB3.out.size))
      clear y4 y5
      by_cases hlt : j < rl.length
      · have hlt' : (j : Int) < rl.length := by omega
        by_cases h30 : j < 30
        · have h30' : (j : Int) < 30 := by omega
          obtain ⟨ad, rfl, hab, h0⟩ := text_at HROW.out HBR.out j hlt
          have hsz := HEACH.out _ (List.getElem_mem hlt)
          obtain ⟨s, hs⟩ : ∃ s, s = rl[j]'hlt := ⟨_, rfl⟩
          rw [← hs] at h0 hsz
          clear hs
          by_cases t1 : s.size = 0
          · obtain rfl : s = ⟨#[]⟩ := by
              obtain ⟨x⟩ := s
              rw [Array.eq_empty_of_size_eq_zero t1]
            clear t1 hI hM
            go_wp2_with fail
            go_roundw
            case rel => exact ⟨j + 1, g, F, R, k, e, N, by go_num, hlt, rfl, by omega, by omega, HI.out.later, HM.out⟩
            case measure => (simp [intOf]; try omega)
          · have hsn : (s.toList == (⟨#[]⟩ : ByteArray).toList) = false := str_ne (by rintro rfl; exact t1 rfl)
            have hse : s.toList.isEmpty = false := by
              cases h : s.toList with
              | nil => rw [h, show (⟨#[]⟩ : ByteArray).toList = [] from by kernel_rfl] at hsn; exact absurd hsn (by decide)
              | cons a l => rfl
            clear hsn
            by_cases t2 : 800 < s.size
            · have t2' : (800 : Int) < s.size := by omega
              clear t1 t2 hI hM
              unfold big at hsz
              go_wp2_with fail
              go_roundw
              case rel => exact ⟨j + 1, g, F, R, k, e, N, by go_num, hlt, rfl, by omega, by omega, HI.out.later, HM.out⟩
              case measure => (simp [intOf]; try omega)
            · have t2' : ¬ ((800 : Int) < s.size) := by omega
              have hs8 : s.size ≤ 800 := by omega
              have cA := Append_any g s wr (hM.res.ok (.inr hI.ok)) hsz
              rw [hM.res.is] at cA
              obtain ⟨EA, hEA⟩ : ∃ E, E = appErr F s.size := ⟨_, rfl⟩
              obtain ⟨FA, hFA⟩ : ∃ E, E = appRes F (bytesOf s) := ⟨_, rfl⟩
              obtain ⟨DA, hDA⟩ : ∃ E, E = appDs F (bytesOf s) := ⟨_, rfl⟩
              rw [← hEA, ← hFA, ← hDA] at cA
              unfold Fl.v at cA
              have CA := Lib.hid cA
              have cQ := Lib.hid (fun W => NeedOf_any s W hsz)
              have HEA := Lib.hid hEA
              have HFA := Lib.hid hFA
              have HDA := Lib.hid hDA
              have HT1 := Lib.hid t1
              have hN2 : N ≤ 256 + 808 * 30 := by omega
              clear t1 t2 hI hM cA hEA hFA hDA hsz
              go_upto_region 17 with (first
                | (go_at_call 28; refine (cQ.out _).mono ?_; rintro e w' ⟨rfl, rfl⟩)
                | (go_at_call 23; refine (CA.out).mono ?_; rintro e' w6 ⟨hb6, f', A6, c6, D6, rfl, hr6, hO6, hD6⟩
                   obtain ⟨w7, hw7⟩ : ∃ x, x = w6.alloc (.cells #[.slice f'.a f'.bl.length f'.c] 24) := ⟨_, rfl⟩
                   obtain ⟨x7, hX7, hz7, hb7⟩ := box_new hw7
                   have hw7' := hw7.symm
                   have HA7 := Lib.hid (show AppMem _ w7 w6.heap.size f' FA A6 c6 D6 from ⟨hX7, hb6.size, ⟨hr6.own.below hb7 (Nat.le_refl _), hr6.cap, hr6.is⟩, hO6.below hb7 (Nat.le_refl _), hb6.trans (hb7.mono hb6.size)⟩)
                   have HD6 := Lib.hid hD6
                   have HM7 := Lib.hid (HM.out.later HA7.out.below)
                   have y7 := cell_of_heap HM7.out.cell 0
                   have y7f := free_of_heap HM7.out.cell 0
                   simp only [List.getElem?_toArray, List.getElem?_cons_zero] at y7
                   clear hw7 hX7 hz7 hb6 hb7 hr6 hO6 hD6 y0 yf))
              by_cases t : EA = 0
              · have HT := Lib.hid t
                subst t
                have hdk := deeds_ok (F := F) (s := s) HEA.out.symm
                have hFA2 := HFA.out
                unfold appRes at hFA2
                rw [bytes_length, ← HEA.out, resIf_zero rfl] at hFA2
                have hDA2 := HDA.out
                unfold appDs at hDA2
                rw [bytes_length, ← HEA.out, if_pos rfl] at hDA2
                have hDD : D6 = appDeeds F (bytesOf s) := HD6.out.trans hDA2
                have HDK := Lib.hid (show flErr F = 0 ∧ (∀ d ∈ D6, dedErr F.length d = 0) ∧ 0 < D6.length by rw [hDD]; exact hdk)
                have HDD := Lib.hid hDD
                have hpos : 0 < D6.length := HDK.out.2.2
                have hpos' : ((D6.length : Int) == 0) = false := by rw [beq_eq_false_iff_ne]; omega
                obtain ⟨gb, cap6, hA6, _, _⟩ := World.ownsRow.form HA7.out.deeds hpos
                have hc6 := own_cap HA7.out.deeds
                obtain rfl : A6 = some ⟨gb, 0, none⟩ := by injection hA6
                clear hA6
                have HFF := Lib.hid (show FA = doneL F D6 by rw [hFA2, hDD])
                have hDl : D6.length ≤ 1000 := by
                  have h9 := appDeeds_len HI.out.load (bytesOf s)
                  rw [bytes_length, ← hDD] at h9
                  exact Nat.le_trans h9 (by omega)
                have HGW := Lib.hid (show ∀ W, Below w7.heap.size w7 W → g.ok W from fun W hW => ((HM7.out.later hW).res.ok (.inr HDK.out.1)))
                have HDW := Lib.hid (show ∀ W, Below w7.heap.size w7 W → DedsOk W (some ⟨gb, 0, none⟩) D6 from fun W hW => ⟨((HA7.out.later hW).deeds).row, by unfold big; omega⟩)
                have HFW := Lib.hid (show ∀ W, Below w7.heap.size w7 W → f'.ok W from fun W hW => ((HA7.out.later hW).res.ok (.inr (by rw [HFF.out]; exact (doneL_ok HDK.out.1 HDK.out.2.1).1))))
                have HGB := Lib.hid HM7.out.res.is
                have HFB := Lib.hid HA7.out.res.is
                have cC := Lib.hid (fun W hW => CheckDeeds_any g (some ⟨gb, 0, none⟩) c6 D6 W (HGW.out W hW) (HDW.out W hW))
                rw [HGB.out, show dedsErr F D6 = 0 from dedsErr_ok.2 ⟨HDK.out.1, HDK.out.2.1⟩] at cC
                have cX := Lib.hid (fun W hW => DoneOf_fl g (some ⟨gb, 0, none⟩) c6 D6 W (HGW.out W hW) (by rw [HGB.out]; exact HDK.out.1) (by rw [HGB.out]; exact HDK.out.2.1) (HDW.out W hW))
                rw [HGB.out] at cX
                have cS := Lib.hid (fun (y : Fl) (W0 W : World) (b0 : Nat) (hW : Below w7.heap.size w7 W) (hy : FlRes W0 b0 y (doneL F D6)) (h0 : Below W0.heap.size W0 W) => (show Calls Try.prog 11 #[y.v, f'.v] W fun e w' => e = .returned (.bool true) ∧ Below W.heap.size W w' from by
                  have := SameFlash_any y f' W ((hy.ok (.inr (doneL_ok HDK.out.1 HDK.out.2.1).1)).below h0) (HFW.out W hW)
                  rw [show decide (y.bl = f'.bl) = true from decide_eq_true (by rw [hy.is, HFB.out, HFF.out])] at this
                  exact this))
                have l1 : w3.heap.size < w7.heap.size := cell_lt' y7
                have l2 : w6.heap.size < w7.heap.size := cell_lt' x7
                clear hdk hFA2 hDA2 hDD
                go_upto_region 19 with fail
                have HC0 := Lib.hid (show Below w7.heap.size w7 w7 ∧ w7.cell? ⟨w3.heap.size, 0, none⟩ = some (.slice g.a g.bl.length g.c) ∧ w7.cell? ⟨w6.heap.size, 0, none⟩ = some (.slice f'.a f'.bl.length f'.c) from ⟨Below.refl _ _, by assumption, by assumption⟩)
                have HCD := Lib.hid (show ∀ W' : World, (Below w7.heap.size w7 W' ∧ W'.cell? ⟨w3.heap.size, 0, none⟩ = some (.slice g.a g.bl.length g.c) ∧ W'.cell? ⟨w6.heap.size, 0, none⟩ = some (.slice f'.a f'.bl.length f'.c)) → (Below w7.heap.size w7 W'.drew ∧ W'.drew.cell? ⟨w3.heap.size, 0, none⟩ = some (.slice g.a g.bl.length g.c) ∧ W'.drew.cell? ⟨w6.heap.size, 0, none⟩ = some (.slice f'.a f'.bl.length f'.c)) from fun W' ⟨b, a0, a1⟩ => ⟨b.drew, a0, a1⟩)
                have HCS := Lib.hid (show ∀ W' W2 : World, (Below w7.heap.size w7 W' ∧ W'.cell? ⟨w3.heap.size, 0, none⟩ = some (.slice g.a g.bl.length g.c) ∧ W'.cell? ⟨w6.heap.size, 0, none⟩ = some (.slice f'.a f'.bl.length f'.c)) → Below W'.heap.size W' W2 → (Below w7.heap.size w7 W2 ∧ W2.cell? ⟨w3.heap.size, 0, none⟩ = some (.slice g.a g.bl.length g.c) ∧ W2.cell? ⟨w6.heap.size, 0, none⟩ = some (.slice f'.a f'.bl.length f'.c)) from fun W' W2 ⟨b, a0, a1⟩ hb => have s := b.size; ⟨b.trans (hb.mono s), (hb.cell (by first | omega | (simp; omega) | (simp only [block_of_add]; omega))).trans a0, (hb.cell (by first | omega | (simp; omega) | (simp only [block_of_add]; omega))).trans a1⟩)
                have HCA := Lib.hid (show ∀ (W' : World) (o : Obj), (Below w7.heap.size w7 W' ∧ W'.cell? ⟨w3.heap.size, 0, none⟩ = some (.slice g.a g.bl.length g.c) ∧ W'.cell? ⟨w6.heap.size, 0, none⟩ = some (.slice f'.a f'.bl.length f'.c)) → (Below w7.heap.size w7 (W'.alloc o) ∧ (W'.alloc o).cell? ⟨w3.heap.size, 0, none⟩ = some (.slice g.a g.bl.length g.c) ∧ (W'.alloc o).cell? ⟨w6.heap.size, 0, none⟩ = some (.slice f'.a f'.bl.length f'.c)) from fun W' o hc => HCS.out W' (W'.alloc o) hc ((Below.refl _ _).alloc (Nat.le_refl _) o))
                have HCX := Lib.hid (show ∀ (W' : World) (bX oX : Nat) (vX : Value), w7.heap.size ≤ bX → (Below w7.heap.size w7 W' ∧ W'.cell? ⟨w3.heap.size, 0, none⟩ = some (.slice g.a g.bl.length g.c) ∧ W'.cell? ⟨w6.heap.size, 0, none⟩ = some (.slice f'.a f'.bl.length f'.c)) → (Below w7.heap.size w7 (W'.setCell ⟨bX, oX, none⟩ vX) ∧ (W'.setCell ⟨bX, oX, none⟩ vX).cell? ⟨w3.heap.size, 0, none⟩ = some (.slice g.a g.bl.length g.c) ∧ (W'.setCell ⟨bX, oX, none⟩ vX).cell? ⟨w6.heap.size, 0, none⟩ = some (.slice f'.a f'.bl.length f'.c)) from fun W' bX oX vX hbX ⟨b, a0, a1⟩ => ⟨b.setCell (p := ⟨bX, oX, none⟩) hbX vX, (((Below.refl _ _).setCell (p := ⟨bX, oX, none⟩) hbX vX).cell (by first | omega | (simp; omega) | (simp only [block_of_add]; omega))).trans a0, (((Below.refl _ _).setCell (p := ⟨bX, oX, none⟩) hbX vX).cell (by first | omega | (simp; omega) | (simp only [block_of_add]; omega))).trans a1⟩)
                have HCL := Lib.hid (show ∀ W' : World, (Below w7.heap.size w7 W' ∧ W'.cell? ⟨w3.heap.size, 0, none⟩ = some (.slice g.a g.bl.length g.c) ∧ W'.cell? ⟨w6.heap.size, 0, none⟩ = some (.slice f'.a f'.bl.length f'.c)) → Below w7.heap.size w7 W' from fun W' hc => hc.1)
                go_cut [131] from 115 to 131 (fun c wx => c = .bool false ∧ Below w7.heap.size w7 wx)
                case first =>
                  go_region_held3 (fun W' => Below w7.heap.size w7 W' ∧ W'.cell? ⟨w3.heap.size, 0, none⟩ = some (.slice g.a g.bl.length g.c) ∧ W'.cell? ⟨w6.heap.size, 0, none⟩ = some (.slice f'.a f'.bl.length f'.c)) (first | exact HC0.out | exact HCD.out _ HC0.out | exact HCS.out _ _ (by assumption) (by assumption) | exact HCS.out _ _ HC0.out (by assumption) | exact HCS.out _ _ (HCD.out _ HC0.out) (by assumption) | exact HCS.out _ _ (HCD.out _ (by assumption)) (by assumption) | exact HCD.out _ (by assumption) | exact HCA.out _ _ (by assumption) | exact HCA.out _ _ HC0.out | exact HCA.out _ _ (HCD.out _ HC0.out) | exact HCD.out _ (HCA.out _ _ (by assumption)) | exact HCA.out _ _ (HCS.out _ _ HC0.out (by assumption)) | exact HCA.out _ _ (HCS.out _ _ (HCD.out _ HC0.out) (by assumption)) | exact HCX.out _ _ _ _ (Nat.le_refl _) (by assumption) | exact HCX.out _ _ _ _ (Nat.le_refl _) (HCS.out _ _ (HCA.out _ _ HC0.out) (by assumption)) | exact HCX.out _ _ _ _ (Nat.le_refl _) (HCS.out _ _ (HCD.out _ (HCA.out _ _ HC0.out)) (by assumption)) | assumption) (first | (go_at_call 16; (with_reducible refine (cC.out _ (HCL.out _ (by assumption))).mono ?_); rintro e wz ⟨rfl, hbz⟩) | (go_at_call 19; (with_reducible refine (cX.out _ (HCL.out _ (by assumption))).mono ?_); rintro e wy ⟨hby, yy, rfl, hry⟩) | (go_at_call 11; (with_reducible refine (cS.out yy wy _ _ (HCL.out _ (by assumption)) hry (by first | exact Below.refl _ _ | assumption)).mono ?_); rintro e wv ⟨rfl, hbv⟩))
                  all_goals (
                    go_wp2_with fail
                    go_meet
                    exact ⟨rfl, HCL.out _ (by assumption)⟩)
                case rest =>
                  obtain ⟨rfl, hb8⟩ := hcut
                  obtain ⟨w8, rfl⟩ : ∃ W : World, W = wc := ⟨_, rfl⟩
                  have HM8 := Lib.hid (HM7.out.later hb8)
                  have HA8 := Lib.hid (HA7.out.later hb8)
                  have HW8 := Lib.hid (HBR.out.trans (HA8.out.below.mono HBR.out.size))
                  have HDW8 := Lib.hid (show ∀ W, Below w8.heap.size w8 W → DedsOk W (some ⟨gb, 0, none⟩) D6 from fun W hW => HDW.out W (hb8.trans (hW.mono hb8.size)))
                  have HGW8 := Lib.hid (show ∀ W, Below w8.heap.size w8 W → g.ok W from fun W hW => HGW.out W (hb8.trans (hW.mono hb8.size)))
                  have y8 := cell_of_heap HM8.out.cell 0
                  simp only [List.getElem?_toArray, List.getElem?_cons_zero] at y8
                  clear HC0 HCD HCS HCA HCL HCX cC cX cS hb8 y7 y7f x7 HGW HDW HFW l1 l2
                  go_upto_region 22 with fail
                  go_cut [153] from 134 to 153 (fun c wx => c = .bool (decide (∃ hx : j < al.length, 0 ≤ al[j] ∧ al[j] < (D6.length : Int))) ∧ w8 = wx)
                  case first =>
                    by_cases a1 : j < al.length
                    · have a1' : (j : Int) < al.length := by omega
                      obtain ⟨ada, rfl, _, ha0⟩ := int_at HAROW.out HW8.out j a1
                      obtain ⟨x, hx⟩ : ∃ x, x = al[j]'a1 := ⟨_, rfl⟩
                      rw [← hx] at ha0
                      have HDEC := Lib.hid (show decide (∃ hx : j < al.length, 0 ≤ al[j] ∧ al[j] < (D6.length : Int)) = (decide (0 ≤ x) && decide (x < (D6.length : Int))) by
                        rw [Bool.eq_iff_iff]; simp [hx, a1])
                      clear hx
                      by_cases a2 : 0 ≤ x
                      · by_cases a3 : x < (D6.length : Int)
                        · go_wp2_with fail
                          go_meet
                          exact ⟨by rw [HDEC.out, decide_eq_true a2, decide_eq_true a3]; rfl, rfl⟩
                        · have HA3 := Lib.hid (decide_eq_false a3)
                          go_wp2_with fail
                          go_meet
                          exact ⟨by rw [HDEC.out, HA3.out, Bool.and_false], rfl⟩
                      · have HA2 := Lib.hid (decide_eq_false a2)
                        go_wp2_with fail
                        go_meet
                        exact ⟨by rw [HDEC.out, HA2.out]; rfl, rfl⟩
                    · have a1' : ¬ ((j : Int) < al.length) := by omega
                      have HDEC := Lib.hid (show decide (∃ hx : j < al.length, 0 ≤ al[j] ∧ al[j] < (D6.length : Int)) = false from decide_eq_false (fun ⟨h, _⟩ => a1 h))
                      go_wp2_with fail
                      go_meet
                      exact ⟨by rw [HDEC.out], rfl⟩
                  obtain ⟨rfl, rfl⟩ := hcut
                  go_upto_if 153 with fail
                  go_cut [18] from 134 to 157 (fun v wx => AtK D6.length v ∧ w8 = wx)
                  case first =>
                    by_cases a0 : ∃ hx : j < al.length, 0 ≤ al[j] ∧ al[j] < (D6.length : Int)
                    · rw [decide_eq_true a0]
                      obtain ⟨a1, a2, a3⟩ := a0
                      have a1' : (j : Int) < al.length := by omega
                      obtain ⟨ada, rfl, _, ha0⟩ := int_at HAROW.out HW8.out j a1
                      obtain ⟨x, hx⟩ : ∃ x, x = al[j]'a1 := ⟨_, rfl⟩
                      rw [← hx] at ha0 a2 a3
                      obtain ⟨q, rfl⟩ : ∃ q : Nat, x = q := ⟨x.toNat, by omega⟩
                      have HQ := Lib.hid (show q ≤ D6.length by omega)
                      clear hx
                      go_wp2_with fail
                      go_meet
                      exact ⟨⟨q, rfl, HQ.out⟩, rfl⟩
                    · rw [decide_eq_false a0]
                      clear a0
                      go_wp2_with fail
                      go_meet
                      exact ⟨⟨D6.length, rfl, Nat.le_refl _⟩, rfl⟩
                  obtain ⟨⟨q, rfl, hq⟩, rfl⟩ := hcut
                  have hq1 : (q : Int) ≤ c6 := by omega
                  have hq0 : (0 : Int) ≤ q := by omega
                  have HQ := Lib.hid hq
                  have htl : (D6.take q).length = q := by rw [List.length_take]; omega
                  have cX := fun W hW => DoneOf_fl g (some ⟨gb, 0, none⟩) c6 (D6.take q) W (HGW8.out W hW) (by rw [HGB.out]; exact HDK.out.1) (by rw [HGB.out]; exact fun d hd => HDK.out.2.1 d (List.mem_of_mem_take hd)) ⟨Row.take_ (enc := Ded.cells) (k := 3) (fun _ => rfl) (HDW8.out W hW).row q, by rw [htl]; unfold big; omega⟩
                  rw [htl, HGB.out] at cX
                  have CX := Lib.hid cX
                  have HYOK := Lib.hid (doneL_ok HDK.out.1 (l := D6.take q) fun d hd => HDK.out.2.1 d (List.mem_of_mem_take hd))
                  obtain ⟨Y0, hY0⟩ : ∃ Y, Y = doneL F (D6.take q) := ⟨_, rfl⟩
                  rw [← hY0] at CX HYOK
                  have HY0 := Lib.hid hY0
                  have l1 : w3.heap.size < w8.heap.size := cell_lt' y8
                  clear htl cX hY0
                  go_upto_region 24 with fail
                  have HC0 := Lib.hid (show Below w8.heap.size w8 w8 ∧ w8.cell? ⟨w3.heap.size, 0, none⟩ = some (.slice g.a g.bl.length g.c) from ⟨Below.refl _ _, by assumption⟩)
                  have HCD := Lib.hid (show ∀ W' : World, (Below w8.heap.size w8 W' ∧ W'.cell? ⟨w3.heap.size, 0, none⟩ = some (.slice g.a g.bl.length g.c)) → (Below w8.heap.size w8 W'.drew ∧ W'.drew.cell? ⟨w3.heap.size, 0, none⟩ = some (.slice g.a g.bl.length g.c)) from fun W' ⟨b, a0⟩ => ⟨b.drew, a0⟩)
                  have HCS := Lib.hid (show ∀ W' W2 : World, (Below w8.heap.size w8 W' ∧ W'.cell? ⟨w3.heap.size, 0, none⟩ = some (.slice g.a g.bl.length g.c)) → Below W'.heap.size W' W2 → (Below w8.heap.size w8 W2 ∧ W2.cell? ⟨w3.heap.size, 0, none⟩ = some (.slice g.a g.bl.length g.c)) from fun W' W2 ⟨b, a0⟩ hb => have s := b.size; ⟨b.trans (hb.mono s), (hb.cell (by first | omega | (simp; omega) | (simp only [block_of_add]; omega))).trans a0⟩)
                  have HCA := Lib.hid (show ∀ (W' : World) (o : Obj), (Below w8.heap.size w8 W' ∧ W'.cell? ⟨w3.heap.size, 0, none⟩ = some (.slice g.a g.bl.length g.c)) → (Below w8.heap.size w8 (W'.alloc o) ∧ (W'.alloc o).cell? ⟨w3.heap.size, 0, none⟩ = some (.slice g.a g.bl.length g.c)) from fun W' o hc => HCS.out W' (W'.alloc o) hc ((Below.refl _ _).alloc (Nat.le_refl _) o))
                  have HCX := Lib.hid (show ∀ (W' : World) (bX oX : Nat) (vX : Value), w8.heap.size ≤ bX → (Below w8.heap.size w8 W' ∧ W'.cell? ⟨w3.heap.size, 0, none⟩ = some (.slice g.a g.bl.length g.c)) → (Below w8.heap.size w8 (W'.setCell ⟨bX, oX, none⟩ vX) ∧ (W'.setCell ⟨bX, oX, none⟩ vX).cell? ⟨w3.heap.size, 0, none⟩ = some (.slice g.a g.bl.length g.c)) from fun W' bX oX vX hbX ⟨b, a0⟩ => ⟨b.setCell (p := ⟨bX, oX, none⟩) hbX vX, (((Below.refl _ _).setCell (p := ⟨bX, oX, none⟩) hbX vX).cell (by first | omega | (simp; omega) | (simp only [block_of_add]; omega))).trans a0⟩)
                  have HCL := Lib.hid (show ∀ W' : World, (Below w8.heap.size w8 W' ∧ W'.cell? ⟨w3.heap.size, 0, none⟩ = some (.slice g.a g.bl.length g.c)) → Below w8.heap.size w8 W' from fun W' hc => hc.1)
                  go_cut [19] from 158 to 162 (fun p wx => AtCut w8 Y0 p wx)
                  case first =>
                    have HZN := Lib.hid (show ∀ W' : World, Below (w8.alloc (.cells #[.slice none 0 0] 24)).drew.heap.size (w8.alloc (.cells #[.slice none 0 0] 24)).drew W' → W'.heap[w8.heap.size]? = some (.cells #[.slice none 0 0] 24 (0, 0)) from
                      fun W' hb => (hb.block w8.heap.size (by show w8.heap.size < (w8.alloc _).heap.size; simp)).trans (heap_alloc_new w8 _))
                    go_region_held3 (fun W' => Below w8.heap.size w8 W' ∧ W'.cell? ⟨w3.heap.size, 0, none⟩ = some (.slice g.a g.bl.length g.c)) (first | exact HC0.out | exact HCD.out _ HC0.out | exact HCS.out _ _ (by assumption) (by assumption) | exact HCS.out _ _ HC0.out (by assumption) | exact HCS.out _ _ (HCD.out _ HC0.out) (by assumption) | exact HCS.out _ _ (HCD.out _ (by assumption)) (by assumption) | exact HCD.out _ (by assumption) | exact HCA.out _ _ (by assumption) | exact HCA.out _ _ HC0.out | exact HCA.out _ _ (HCD.out _ HC0.out) | exact HCD.out _ (HCA.out _ _ (by assumption)) | exact HCA.out _ _ (HCS.out _ _ HC0.out (by assumption)) | exact HCA.out _ _ (HCS.out _ _ (HCD.out _ HC0.out) (by assumption)) | exact HCX.out _ _ _ _ (Nat.le_refl _) (by assumption) | exact HCX.out _ _ _ _ (Nat.le_refl _) (HCS.out _ _ (HCA.out _ _ HC0.out) (by assumption)) | exact HCX.out _ _ _ _ (Nat.le_refl _) (HCS.out _ _ (HCD.out _ (HCA.out _ _ HC0.out)) (by assumption)) | assumption) (first | (go_at_call 19; (with_reducible refine (CX.out _ (HCL.out _ (by assumption))).mono ?_); rintro e w9 ⟨hb9, yy, rfl, hr9⟩; have hbw9 := Lib.hid ((HCL.out _ (by assumption)).trans (hb9.mono (HCL.out _ (by assumption)).size)); have hrw9 := Lib.hid (hr9.more_ (HCL.out _ (by assumption)).size); (try (have hz9 := HZN.out w9 hb9; have z9 := cell_of_heap hz9 0; have zf9 := free_of_heap hz9 0; simp only [List.getElem?_toArray, List.getElem?_cons_zero] at z9))))
                    all_goals (
                      go_wp2_with fail
                      go_meet
                      first
                        | exact ⟨_, _, rfl, YMem.new hbw9.out hrw9.out⟩
                        | exact ⟨_, _, rfl, YMem.old hz9 (Nat.le_refl _) hbw9.out hrw9.out⟩)
                  case rest =>
                    obtain ⟨B9, yy, rfl, hY9⟩ := hcut
                    obtain ⟨w9, rfl⟩ : ∃ W : World, W = wc := ⟨_, rfl⟩
                    have HY9 := Lib.hid hY9
                    have z9 := cell_of_heap hY9.cell 0
                    have zf9 := free_of_heap hY9.cell 0
                    simp only [List.getElem?_toArray, List.getElem?_cons_zero] at z9
                    clear HC0 HCD HCS HCA HCL HCX CX hY9 l1 y8
                    go_upto_region 25 with fail
                    go_cut [172] from 163 to 172 (fun c wx => c = .bool (decide (q < D6.length ∧ j < pl.length)) ∧ w9 = wx)
                    case first =>
                      by_cases a1 : q < D6.length
                      · have a1' : (q : Int) < D6.length := by omega
                        by_cases a2 : j < pl.length
                        · have a2' : (j : Int) < pl.length := by omega
                          have HDEC := Lib.hid (show decide (q < D6.length ∧ j < pl.length) = true from decide_eq_true ⟨a1, a2⟩)
                          go_wp2_with fail
                          go_meet
                          exact ⟨by rw [HDEC.out], rfl⟩
                        · have a2' : ¬ ((j : Int) < pl.length) := by omega
                          have HDEC := Lib.hid (show decide (q < D6.length ∧ j < pl.length) = false from decide_eq_false (fun h => a2 h.2))
                          go_wp2_with fail
                          go_meet
                          exact ⟨by rw [HDEC.out], rfl⟩
                      · have a1' : ¬ ((q : Int) < D6.length) := by omega
                        have HDEC := Lib.hid (show decide (q < D6.length ∧ j < pl.length) = false from decide_eq_false (fun h => a1 h.1))
                        go_wp2_with fail
                        go_meet
                        exact ⟨by rw [HDEC.out], rfl⟩
                    obtain ⟨rfl, rfl⟩ := hcut
                    go_upto_if 172 with fail
                    go_cut [19] from 163 to 182 (fun p wx => AtTorn w8 F D6 q B9 p wx)
                    case first =>
                      by_cases a0 : q < D6.length ∧ j < pl.length
                      · rw [decide_eq_true a0]
                        obtain ⟨a1, a2⟩ := a0
                        have a1' : (q : Int) < D6.length := by omega
                        have a2' : (j : Int) < pl.length := by omega
                        obtain ⟨adp, rfl, _, hp0⟩ := text_at HPROW.out (HW8.out.trans (HY9.out.below.mono HW8.out.size)) j a2
                        have hpz := HPEACH.out _ (List.getElem_mem a2)
                        obtain ⟨part, hpart⟩ : ∃ x, x = pl[j]'a2 := ⟨_, rfl⟩
                        rw [← hpart] at hp0 hpz
                        obtain ⟨add, hadd, _, hd0, hd1, hd2⟩ := ded_at (HDW8.out w8 (Below.refl _ _)).row HY9.out.below q a1
                        obtain rfl : (⟨gb, 0, none⟩ : Addr) = add := by injection hadd
                        obtain ⟨dd, hdd⟩ : ∃ x, x = D6[q]'a1 := ⟨_, rfl⟩
                        rw [← hdd] at hd0 hd1 hd2
                        have hadd0 : ∀ n, (⟨gb, 0, none⟩ : Addr).add n = ⟨gb, n, none⟩ := fun n => by unfold Addr.add; split <;> simp_all
                        simp only [hadd0] at hd0 hd1 hd2
                        have hdok : dedErr F.length dd = 0 := by rw [hdd]; exact HDK.out.2.1 _ (List.getElem_mem a1)
                        have HCR := Lib.hid (show D6[q]? = some dd by rw [hdd]; exact List.getElem?_eq_getElem a1)
                        have hbd : Below w9.heap.size w9 w9.drew := below_drewN (Below.refl _ _) 1
                        have cT := TornOf_fl yy dd part w9.drew ((show yy.ok w9 from HY9.out.res.ok (.inr HYOK.out.1)).below hbd) (by rw [HY9.out.res.is]; exact HYOK.out.1) (by rw [HY9.out.res.is, HYOK.out.2]; exact hdok) hpz
                        rw [HY9.out.res.is] at cT
                        have CT := Lib.hid cT
                        have HBD := Lib.hid hbd
                        have HB9L := Lib.hid (show B9 < w9.drew.heap.size from (Array.getElem?_eq_some_iff.1 HY9.out.cell).1)
                        have HC9 := Lib.hid (show w9.drew.heap[B9]? = some (flc' yy) from HY9.out.cell)
                        clear hpart hdd hdok hadd hadd0 cT hbd
                        go_upto_region 26 with fail
                        go_region_law ((go_simp; go_at_call 20; (with_reducible refine (CT.out).mono ?_); rintro e w10 ⟨hb10, yt, rfl, hr10⟩; have hz10 := (hb10.block B9 HB9L.out).trans HC9.out; have z10 := cell_of_heap hz10 0; have zf10 := free_of_heap hz10 0; simp only [List.getElem?_toArray, List.getElem?_cons_zero] at z10; have HZ10 := Lib.hid hz10; have HB10 := Lib.hid (HBD.out.trans hb10); have HR10 := Lib.hid hr10; clear hz10 hb10 hr10))
                        all_goals (
                          go_wp2_with fail
                          go_meet
                          refine ⟨rfl, yt, tornL Y0 dd (bytesOf part), YMem.old HZ10.out HY9.out.lt (HY9.out.below.trans (HB10.out.mono HY9.out.below.size)) (HR10.out.more_ HY9.out.below.size), .inr ⟨dd, tornP dd (bytesOf part), HCR.out, ?_⟩⟩
                          rw [← HY0.out]; rfl)
                      · rw [decide_eq_false a0]
                        clear a0
                        go_wp2_with fail
                        go_meet
                        exact ⟨rfl, yy, Y0, HY9.out, .inl HY0.out⟩
                    case rest =>
                      obtain ⟨rfl, yt, Y, hYM, hCr⟩ := hcut
                      obtain ⟨w10, rfl⟩ : ∃ W : World, W = wc := ⟨_, rfl⟩
                      have HY10 := Lib.hid hYM
                      have z10 := cell_of_heap hYM.cell 0
                      simp only [List.getElem?_toArray, List.getElem?_cons_zero] at z10
                      have key := HI.out.crash (s := s) HEA.out.symm (q := q) (by rw [← HDD.out]; exact HQ.out) (by rw [← HDD.out]; exact hCr)
                      clear hYM hCr
                      rcases key with ⟨k', e', hI', hqn⟩ | ⟨k', e', hI'⟩
                      · have HIN := Lib.hid hI'
                        obtain ⟨o1, o2⟩ := hI'.open_
                        have hyok : yt.ok w10 := HY10.out.res.ok (.inr hI'.ok)
                        have cO := Open_any yt w10 hyok
                        rw [HY10.out.res.is, o1, o2] at cO
                        have CO := Lib.hid cO
                        have cP := Lib.hid (fun W (hW : Below w10.heap.size w10 W) => Open_any yt W (hyok.below hW))
                        rw [HY10.out.res.is, o1, o2] at cP
                        have HRL := Lib.hid (show R.length ≤ 30 by have := HI.out.many; omega)
                        obtain ⟨A11, c11, h11, hrow11, _⟩ := (HM8.out.later HY10.out.below).texts.form
                        subst h11
                        have HROW11 := Lib.hid hrow11
                        have hqn2 : ((q : Int) == (D6.length : Int)) = false := by rw [beq_eq_false_iff_ne]; rw [← HDD.out] at hqn; omega
                        clear hI' o1 o2 hyok cO hrow11 hqn z9 zf9
                        go_wp2_with (first
                          | (go_at_call 24; (with_reducible refine (CO.out).mono ?_); rintro e w11 ⟨hb11, Aa, ca, Ra, rfl, hOa, hRa⟩
                             have z11 := (hb11.cell (p := ⟨B9, 0, none⟩) (cell_lt' z10)).trans z10
                             have HB11 := Lib.hid hb11
                             have HOa := Lib.hid hOa
                             have HRa := Lib.hid hRa
                             have CP := Lib.hid (cP.out w11 hb11)
                             clear hb11 hOa hRa z10 CO)
                          | (go_at_call 24; (with_reducible refine (CP.out).mono ?_); rintro e w12 ⟨hb12, Ab, cb, Rb, rfl, hOb, hRb⟩
                             have z12 := (hb12.cell (p := ⟨B9, 0, none⟩) (cell_lt' z11)).trans z11
                             have HB12 := Lib.hid (HB11.out.trans (hb12.mono HB11.out.size))
                             have HOa2 := Lib.hid (HOa.out.below hb12 (Nat.le_refl _))
                             obtain ⟨Aa', ca', ea, hrowa, _⟩ := HOa2.out.form
                             injection ea with ea1 ea2 ea3
                             subst ea1 ea3
                             obtain ⟨Ab', cb', eb, hrowb, _⟩ := hOb.form
                             injection eb with eb1 eb2 eb3
                             subst eb1 eb3
                             have cS := SameTexts_any Aa Ab ca cb Ra Rb w12 hrowa hrowb (by rw [HRa.out]; have := HRL.out; (try simp only [List.length_append, List.length_singleton]); unfold big; omega) (by rw [hRb]; have := HRL.out; (try simp only [List.length_append, List.length_singleton]); unfold big; omega)
                             rw [show decide (Ra = Rb) = true from decide_eq_true (HRa.out.trans hRb.symm)] at cS
                             have CS := Lib.hid cS
                             have HROWA := Lib.hid hrowa
                             clear hb12 ea2 eb2 hrowa hrowb hOb hRb cS z11 CP)
                          | (go_at_call 27; (with_reducible refine (CS.out).mono ?_); rintro e w13 ⟨rfl, hb13⟩
                             have z13 := (hb13.cell (p := ⟨B9, 0, none⟩) (cell_lt' z12)).trans z12
                             have HB13 := Lib.hid (HB12.out.trans (hb13.mono HB12.out.size))
                             have HROWA3 := Lib.hid (HROWA.out.below hb13)
                             obtain ⟨w14, hw14⟩ : ∃ x, x = w13.alloc (.cells #[] 9) := ⟨_, rfl⟩
                             have hb14 : Below w13.heap.size w13 w14 := hw14 ▸ (Below.refl _ _).alloc (Nat.le_refl _) _
                             have HE14 := Lib.hid (show TOwn w14 w13.heap.size (.slice (some ⟨w13.heap.size, 0, none⟩) 0 0) [] from hw14 ▸ TOwn.empty w13 w13.heap.size (Nat.le_refl _))
                             have HB14 := Lib.hid hb14
                             have HR14 := Lib.hid (HROW11.out.below (HB13.out.trans (hb14.mono HB13.out.size)))
                             have HL14 := Lib.hid (show ([] : List ByteArray).length + R.length ≤ 1000000 by have := HRL.out; simp only [List.length_nil]; omega)
                             have hw14' := hw14.symm
                             clear hb13 hb14 hw14 z12 CS)
                          | (at_builtin; refine append_textB w14 rfl (.tmp 205) (.tmp 206) rfl w13.heap.size (.slice (some ⟨w13.heap.size, 0, none⟩) 0 0) [] rfl HE14.out A11 c11 R rfl HR14.out HL14.out HB14.out.size ?_
                             intro v15 w15 ht15 hb15 _ _
                             rw [List.nil_append] at ht15
                             obtain ⟨w16, hw16⟩ : ∃ x, x = w15.alloc (.cells #[.string s] 9) := ⟨_, rfl⟩
                             have hb16 : Below w15.heap.size w15 w16 := hw16 ▸ (Below.refl _ _).alloc (Nat.le_refl _) _
                             have HT16 := Lib.hid (ht15.below hb16 (Nat.le_refl _))
                             have HR16 := Lib.hid (show Row strCells 1 w16 (some ⟨w15.heap.size, 0, none⟩) [s] from row_block (enc := strCells) (k := 1) (fun _ => rfl) (hw16 ▸ heap_alloc_new _ _) rfl)
                             have HL16 := Lib.hid (show R.length + [s].length ≤ 1000000 by have := HRL.out; simp only [List.length_singleton]; omega)
                             have HB16 := Lib.hid ((HB14.out.trans hb15).trans (hb16.mono (Nat.le_trans HB14.out.size hb15.size)))
                             have hw16' := hw16.symm
                             clear ht15 hb15 hb16 hw16)
                          | (at_builtin; refine append_textB w16 rfl (.tmp 207) (.tmp 209) rfl w13.heap.size v15 R rfl HT16.out (some ⟨w15.heap.size, 0, none⟩) 1 [s] rfl HR16.out HL16.out HB16.out.size ?_
                             intro v17 w17 ht17 hb17 _ _
                             have HB17 := Lib.hid (HB16.out.trans hb17)
                             have z17 := (HB17.out.cell (p := ⟨B9, 0, none⟩) (cell_lt' z13)).trans z13
                             obtain ⟨Aw, cw, hv17, hroww, _⟩ := ht17.form
                             rw [List.length_append, List.length_singleton] at hv17
                             subst hv17
                             have cS := SameTexts_any Aa Aw ca cw Ra (R ++ [s]) w17 (HROWA3.out.below HB17.out) hroww (by rw [HRa.out]; have := HRL.out; (try simp only [List.length_append, List.length_singleton]); unfold big; omega) (by have := HRL.out; (try simp only [List.length_append, List.length_singleton]); unfold big; omega)
                             rw [List.length_append, List.length_singleton, show decide (Ra = R ++ [s]) = false from (by rw [HRa.out]; exact decide_eq_false (fun h => by have := congrArg List.length h; simp at this))] at cS
                             have CS2 := Lib.hid cS
                             have HT17 := Lib.hid ht17
                             have HBW := Lib.hid (HB13.out.trans (HB17.out.mono HB13.out.size))
                             clear ht17 hb17 hroww cS z13)
                          | (go_at_call 27; (with_reducible refine (CS2.out).mono ?_); rintro e w18 ⟨rfl, hb18⟩
                             have z18 := (hb18.cell (p := ⟨B9, 0, none⟩) (cell_lt' z17)).trans z17
                             have HB18 := Lib.hid (HBW.out.trans (hb18.mono HBW.out.size))
                             have HT18 := Lib.hid (HT17.out.below hb18 (Nat.le_refl _))
                             have HM18 := Lib.hid (HM8.out.later (HY10.out.below.trans (HB18.out.mono HY10.out.below.size)))
                             have HY18 := Lib.hid (HY10.out.later HB18.out)
                             have y18 := cell_of_heap HM18.out.cell 0
                             have yf18 := free_of_heap HM18.out.cell 0
                             simp only [List.getElem?_toArray, List.getElem?_cons_zero] at y18
                             have CS3 := Lib.hid (SameTexts_any Aa A11 ca c11 Ra R w18 ((HROWA3.out.below HB17.out).below hb18) (HROW11.out.below HB18.out) (by rw [HRa.out]; have := HRL.out; unfold big; omega) (by have := HRL.out; unfold big; omega))
                             rw [show decide (Ra = R) = true from decide_eq_true HRa.out] at CS3
                             clear hb18 z17 CS2)
                          | (go_at_call 27; (with_reducible refine (CS3.out).mono ?_); rintro e w19 ⟨rfl, hb19⟩
                             have z19 := (hb19.cell (p := ⟨B9, 0, none⟩) (cell_lt' z18)).trans z18
                             have HM19 := Lib.hid (HM18.out.later hb19)
                             have HY19 := Lib.hid (HY18.out.later hb19)
                             have y19 := cell_of_heap HM19.out.cell 0
                             have yf19 := free_of_heap HM19.out.cell 0
                             simp only [List.getElem?_toArray, List.getElem?_cons_zero] at y19
                             clear hb19 z18 y18 yf18))
                        go_roundw
                        case rel =>
                          refine ⟨j + 1, yt, Y, R, k', e', N + (s.size + 8), by go_num, hlt, by rw [show ((N + (s.size + 8) : Nat) : Int) = (N : Int) + ((s.size : Int) + 8) by omega], by omega, by omega, HIN.out, ?_⟩
                          have hx := HZ3.out
                          have hx2 := HM8.out.below.size
                          exact OMem.put HM19.out (HY19.out.res.more_ (by omega)) HM19.out.texts
                        case measure => (simp [intOf]; try omega)
                      · have HIN := Lib.hid hI'
                        obtain ⟨o1, o2⟩ := hI'.open_
                        have hyok : yt.ok w10 := HY10.out.res.ok (.inr hI'.ok)
                        have cO := Open_any yt w10 hyok
                        rw [HY10.out.res.is, o1, o2] at cO
                        have CO := Lib.hid cO
                        have cP := Lib.hid (fun W (hW : Below w10.heap.size w10 W) => Open_any yt W (hyok.below hW))
                        rw [HY10.out.res.is, o1, o2] at cP
                        have HRL := Lib.hid (show R.length ≤ 30 by have := HI.out.many; omega)
                        obtain ⟨A11, c11, h11, hrow11, _⟩ := (HM8.out.later HY10.out.below).texts.form
                        subst h11
                        have HROW11 := Lib.hid hrow11
                        clear hI' o1 o2 hyok cO hrow11 z9 zf9
                        go_wp2_with (first
                          | (go_at_call 24; (with_reducible refine (CO.out).mono ?_); rintro e w11 ⟨hb11, Aa, ca, Ra, rfl, hOa, hRa⟩
                             have z11 := (hb11.cell (p := ⟨B9, 0, none⟩) (cell_lt' z10)).trans z10
                             have HB11 := Lib.hid hb11
                             have HOa := Lib.hid hOa
                             have HRa := Lib.hid hRa
                             have CP := Lib.hid (cP.out w11 hb11)
                             clear hb11 hOa hRa z10 CO)
                          | (go_at_call 24; (with_reducible refine (CP.out).mono ?_); rintro e w12 ⟨hb12, Ab, cb, Rb, rfl, hOb, hRb⟩
                             have z12 := (hb12.cell (p := ⟨B9, 0, none⟩) (cell_lt' z11)).trans z11
                             have HB12 := Lib.hid (HB11.out.trans (hb12.mono HB11.out.size))
                             have HOa2 := Lib.hid (HOa.out.below hb12 (Nat.le_refl _))
                             obtain ⟨Aa', ca', ea, hrowa, _⟩ := HOa2.out.form
                             injection ea with ea1 ea2 ea3
                             subst ea1 ea3
                             obtain ⟨Ab', cb', eb, hrowb, _⟩ := hOb.form
                             injection eb with eb1 eb2 eb3
                             subst eb1 eb3
                             have cS := SameTexts_any Aa Ab ca cb Ra Rb w12 hrowa hrowb (by rw [HRa.out]; have := HRL.out; (try simp only [List.length_append, List.length_singleton]); unfold big; omega) (by rw [hRb]; have := HRL.out; (try simp only [List.length_append, List.length_singleton]); unfold big; omega)
                             rw [show decide (Ra = Rb) = true from decide_eq_true (HRa.out.trans hRb.symm)] at cS
                             have CS := Lib.hid cS
                             have HROWA := Lib.hid hrowa
                             clear hb12 ea2 eb2 hrowa hrowb hOb hRb cS z11 CP)
                          | (go_at_call 27; (with_reducible refine (CS.out).mono ?_); rintro e w13 ⟨rfl, hb13⟩
                             have z13 := (hb13.cell (p := ⟨B9, 0, none⟩) (cell_lt' z12)).trans z12
                             have HB13 := Lib.hid (HB12.out.trans (hb13.mono HB12.out.size))
                             have HROWA3 := Lib.hid (HROWA.out.below hb13)
                             obtain ⟨w14, hw14⟩ : ∃ x, x = w13.alloc (.cells #[] 9) := ⟨_, rfl⟩
                             have hb14 : Below w13.heap.size w13 w14 := hw14 ▸ (Below.refl _ _).alloc (Nat.le_refl _) _
                             have HE14 := Lib.hid (show TOwn w14 w13.heap.size (.slice (some ⟨w13.heap.size, 0, none⟩) 0 0) [] from hw14 ▸ TOwn.empty w13 w13.heap.size (Nat.le_refl _))
                             have HB14 := Lib.hid hb14
                             have HR14 := Lib.hid (HROW11.out.below (HB13.out.trans (hb14.mono HB13.out.size)))
                             have HL14 := Lib.hid (show ([] : List ByteArray).length + R.length ≤ 1000000 by have := HRL.out; simp only [List.length_nil]; omega)
                             have hw14' := hw14.symm
                             clear hb13 hb14 hw14 z12 CS)
                          | (at_builtin; refine append_textB w14 rfl (.tmp 205) (.tmp 206) rfl w13.heap.size (.slice (some ⟨w13.heap.size, 0, none⟩) 0 0) [] rfl HE14.out A11 c11 R rfl HR14.out HL14.out HB14.out.size ?_
                             intro v15 w15 ht15 hb15 _ _
                             rw [List.nil_append] at ht15
                             obtain ⟨w16, hw16⟩ : ∃ x, x = w15.alloc (.cells #[.string s] 9) := ⟨_, rfl⟩
                             have hb16 : Below w15.heap.size w15 w16 := hw16 ▸ (Below.refl _ _).alloc (Nat.le_refl _) _
                             have HT16 := Lib.hid (ht15.below hb16 (Nat.le_refl _))
                             have HR16 := Lib.hid (show Row strCells 1 w16 (some ⟨w15.heap.size, 0, none⟩) [s] from row_block (enc := strCells) (k := 1) (fun _ => rfl) (hw16 ▸ heap_alloc_new _ _) rfl)
                             have HL16 := Lib.hid (show R.length + [s].length ≤ 1000000 by have := HRL.out; simp only [List.length_singleton]; omega)
                             have HB16 := Lib.hid ((HB14.out.trans hb15).trans (hb16.mono (Nat.le_trans HB14.out.size hb15.size)))
                             have hw16' := hw16.symm
                             clear ht15 hb15 hb16 hw16)
                          | (at_builtin; refine append_textB w16 rfl (.tmp 207) (.tmp 209) rfl w13.heap.size v15 R rfl HT16.out (some ⟨w15.heap.size, 0, none⟩) 1 [s] rfl HR16.out HL16.out HB16.out.size ?_
                             intro v17 w17 ht17 hb17 _ _
                             have HB17 := Lib.hid (HB16.out.trans hb17)
                             have z17 := (HB17.out.cell (p := ⟨B9, 0, none⟩) (cell_lt' z13)).trans z13
                             obtain ⟨Aw, cw, hv17, hroww, _⟩ := ht17.form
                             rw [List.length_append, List.length_singleton] at hv17
                             subst hv17
                             have cS := SameTexts_any Aa Aw ca cw Ra (R ++ [s]) w17 (HROWA3.out.below HB17.out) hroww (by rw [HRa.out]; have := HRL.out; (try simp only [List.length_append, List.length_singleton]); unfold big; omega) (by have := HRL.out; (try simp only [List.length_append, List.length_singleton]); unfold big; omega)
                             rw [List.length_append, List.length_singleton, show decide (Ra = R ++ [s]) = true from (by rw [HRa.out]; exact decide_eq_true rfl)] at cS
                             have CS2 := Lib.hid cS
                             have HT17 := Lib.hid ht17
                             have HBW := Lib.hid (HB13.out.trans (HB17.out.mono HB13.out.size))
                             clear ht17 hb17 hroww cS z13)
                          | (go_at_call 27; (with_reducible refine (CS2.out).mono ?_); rintro e w18 ⟨rfl, hb18⟩
                             have z18 := (hb18.cell (p := ⟨B9, 0, none⟩) (cell_lt' z17)).trans z17
                             have HB18 := Lib.hid (HBW.out.trans (hb18.mono HBW.out.size))
                             have HT18 := Lib.hid (HT17.out.below hb18 (Nat.le_refl _))
                             have HM18 := Lib.hid (HM8.out.later (HY10.out.below.trans (HB18.out.mono HY10.out.below.size)))
                             have HY18 := Lib.hid (HY10.out.later HB18.out)
                             have y18 := cell_of_heap HM18.out.cell 0
                             have yf18 := free_of_heap HM18.out.cell 0
                             simp only [List.getElem?_toArray, List.getElem?_cons_zero] at y18
                             clear hb18 z17 CS2))
                        go_roundw
                        case rel =>
                          refine ⟨j + 1, yt, Y, (R ++ [s]), k', e', N + (s.size + 8), by go_num, hlt, by rw [show ((N + (s.size + 8) : Nat) : Int) = (N : Int) + ((s.size : Int) + 8) by omega], by omega, by omega, HIN.out, ?_⟩
                          have hx := HZ3.out
                          have hx2 := HM8.out.below.size
                          exact OMem.put HM18.out (HY18.out.res.more_ (by omega)) (HT18.out.more (by have := HBW.out.size; have := HB13.out.size; have := HY10.out.below.size; omega))
                        case measure => (simp [intOf]; try omega)
              · have u1 : (EA != 0) = true := by simp [t]
                obtain ⟨e8, hneed⟩ := HI.out.err (m := s.size) (by rw [← HEA.out]; exact t) HT1.out hs8
                rw [← HEA.out] at e8
                have hF2 := HFA.out
                unfold appRes at hF2
                rw [bytes_length, ← HEA.out, resIf_ne t] at hF2
                have hD2 := HDA.out
                unfold appDs at hD2
                rw [bytes_length, ← HEA.out, if_neg t] at hD2
                have l1 : f'.bl.length = 0 := by rw [HA7.out.res.is, hF2]; rfl
                have l2 : D6.length = 0 := by rw [HD6.out, hD2]; rfl
                have hnd : (nb : Int) * 128 < (N : Int) + ((s.size : Int) + 8) := by omega
                subst e8
                have HW7 := Lib.hid (HBR.out.trans (HA7.out.below.mono HBR.out.size))
                clear t hneed hF2 hD2 u1
                go_wp2_with fail
                go_ret
                exact ⟨by first | rfl | simp, HW7.out⟩
        · have h30' : ¬ ((j : Int) < 30) := by omega
          clear hI hM
          go_wp2_with fail
          go_ret
          exact ⟨rfl, HBR.out⟩
      · clear hI hM
        go_wp2_with fail
        go_ret
        exact ⟨rfl, HBR.out⟩

set_option maxRecDepth 100000 in
theorem journalOpens_lifted (os : Os) (started : os.Started) (H : Type) (enc : TypeId × Value → H) :
    ReturnsInHanded {} Try.checked os 8 .any (Rows.journalOpensSpec.pre6 enc Try.prog Try.f8 Rows.journalOpensRow.domain false) (Rows.journalOpensSpec.post enc Try.prog Try.f8 false true false false) := by
  refine returnsInHanded_of_change_sized (C := Try.checked) Try.own started (by kernel_rfl) Try.func8
    (ChangeSpec.witness6 (enc := enc) (C := Try.checked) false ⟨#[], #[.int .i64 0, .slice none 0 0, .slice none 0 0, .slice none 0 0], []⟩ 8 (by kernel_rfl) (by kernel_rfl) (by kernel_rfl) (by kernel_rfl)) ?_
  intro W base args ds gs before hval0 hW hcnd hsz0 _
  have hval : ∀ (j : Nat) t v, Try.f8.params[j]? = some t → args[j]? = some v → Value.okWide Try.prog W .any base t v := hval0
  have hsz : (DataW.weightsEach Try.prog (Try.f8.params.toList ++ Rows.journalOpensSpec.plain.varTypes Try.prog) (ds ++ gs)).all (· ≤ reachBytes) = true := hsz0
  have hW' := hW
  obtain ⟨p, q, hA0, hV, rfl, hfz, hnd⟩ := hW
  have hA : DataW.TrodAll enc Try.prog W 0 (fun _ => true) true Try.f8.params.toList args.toList ds p := hA0
  rw [Try.params8] at hA hval hsz
  obtain ⟨v0, vs0, d0, ds0, p0, q0, hargs, rfl, rfl, h0, r0⟩ := trodAll_cons hA
  obtain ⟨v1, vs1, d1, ds1, p1, q1, rfl, rfl, rfl, h1, r1⟩ := trodAll_cons r0
  obtain ⟨v2, vs2, d2, ds2, p2, q2, rfl, rfl, rfl, h2, r2⟩ := trodAll_cons r1
  obtain ⟨v3, vs3, d3, ds3, p3, q3, rfl, rfl, rfl, h3, r3⟩ := trodAll_cons r2
  obtain ⟨rfl, rfl, rfl⟩ := trodAll_nil r3
  obtain rfl : args = #[v0, v1, v2, v3] := by cases args; simp_all
  obtain ⟨rfl, rfl⟩ := trodVars_none hV
  obtain ⟨b, rfl, rfl, rfl, w0⟩ := open_int Try.underlying3 (hval 0 3 v0 rfl rfl) h0
  have ft1 := fits_each hsz (j := 1) rfl rfl
  obtain ⟨rA, r, rc, rfl, ok1⟩ := open_Texts (hval 1 22 v1 rfl rfl) h1 ft1
  have ft2 := fits_each hsz (j := 2) rfl rfl
  obtain ⟨aA, a, ac, rfl, ok2⟩ := open_Ints (hval 2 54 v2 rfl rfl) h2 ft2
  have ft3 := fits_each hsz (j := 3) rfl rfl
  obtain ⟨pA, p, pc, rfl, ok3⟩ := open_Texts (hval 3 22 v3 rfl rfl) h3 ft3
  refine (JournalOpens_any b rA r rc aA a ac pA p pc W ok1 ok2 ok3).mono fun e W' ⟨he, hb⟩ => ?_
  subst he
  exact ⟨_, rfl, law_post Try.laidOut hW' rfl (by decide +kernel) rfl Try.underlying4 rfl rfl rfl hb⟩

theorem journalOpens_holds : Rows.JournalOpensSaid :=
  OpenClaim.holds_of_wide 8 Try.f8 rfl rfl rfl rfl rfl rfl rfl ⟨rfl, rfl, rfl, rfl, rfl⟩ rfl rfl rfl rfl rfl (by kernel_rfl) Try.func8 (by kernel_rfl)
    (of_decide_eq_true (by kernel_rfl)) (by unfold Func.isWrapper; first | (rw [if_pos (by decide +kernel)]; kernel_rfl) | (rw [if_neg (by decide +kernel)]; exact ⟨rfl, rfl⟩))
    (fun os started H enc _ => journalOpens_lifted os started H enc)
#print axioms journalOpens_holds

end Go.Proofs.Ytpmjgkngkaleeaa
