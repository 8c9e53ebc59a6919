import Derived.Test.YtdpacbdejfjkcaaLawRegionClear
import Derived.Test.YtdpacbdejfjkcaaPlcs
/- RegionRuns: runs rise, none begins where another one ends, and a module that is placed in one leaves what is left of it. No condition. -/
namespace Go.Proofs.Ytdpacbdejfjkcaa
open Go.ChangeShapes Go.WideShapes Go.ChangeAt Go.RowKit Go.WideMaps Go.WideElems
open Go.ChangeMaps (setBlock shut_map_nil open_string shut_string keptBut_setBlock frozen?_setBlock heap_setBlock_same)

theorem placeds_cap {H : Type} {enc : TypeId × Value → H} {w : World} {base : Nat} {spare : Nat → Bool} {held : Bool} {A : Option Addr} {len cap : Nat} {d : DataW H} {p : List MemPlace}
    (h : DataW.Trod enc Try.prog w base spare held 27 (.slice A len cap) d p) : len ≤ cap ∧ cap ≤ maxLen := by
  obtain ⟨fuel, hf⟩ := h
  rcases Go.Deep.open_slice Try.underlying27 hf with ⟨e1, _⟩ | ⟨a, len', cap', m, n', D, Pl, e1, _, hl, hc, _⟩
  · simp only [Value.cells, List.cons.injEq, and_true] at e1
    injection e1 with _ h1 h2
    subst h1 h2
    exact ⟨Nat.le_refl _, Nat.zero_le _⟩
  · simp only [Value.cells, List.cons.injEq, and_true] at e1
    injection e1 with _ h1 h2
    subst h1 h2
    exact ⟨hl, hc⟩
theorem Row.take {α : Type} {enc : α → List Value} {k : Nat} {w : World} {A : Option Addr} {l : List α} (hk : ∀ x, (enc x).length = k) (h : Row enc k w A l) (i : Nat) : Row enc k w A (l.take i) := by
  refine ⟨flat_length hk _, fun hn => ?_⟩
  rw [List.length_take] at hn
  obtain ⟨ad, e, hb, hc⟩ := h.2 (by omega)
  refine ⟨ad, e, hb, fun j u hu => hc j u ?_⟩
  conv => lhs; rw [← List.take_append_drop i l]
  rw [List.flatMap_append, List.getElem?_append_left]
  · exact hu
  · exact (List.getElem?_eq_some_iff.1 hu).1
theorem Row.drop {α : Type} {enc : α → List Value} {k : Nat} {w : World} {ad : Addr} {l : List α} (hk : ∀ x, (enc x).length = k) (h : Row enc k w (some ad) l) (i : Nat) : Row enc k w (some (ad.add (i * k))) (l.drop i) := by
  refine ⟨flat_length hk _, fun hn => ?_⟩
  rw [List.length_drop] at hn
  obtain ⟨ad', e, hb, hc⟩ := h.2 (by omega)
  obtain rfl := Option.some.inj e
  refine ⟨_, rfl, by rw [block_of_add]; exact hb, fun j u hu => ?_⟩
  rw [add_of_add]
  refine hc _ u ?_
  conv => lhs; rw [← List.take_append_drop i l]
  have hl : ((l.take i).flatMap enc).length = i * k := by rw [flat_length hk, List.length_take]; congr 1; omega
  rw [List.flatMap_append, List.getElem?_append_right (by omega), hl, show i * k + j - i * k = j by omega]
  exact hu

theorem wp_plcsN (W : World) {o : Oper} {a : Act} {K : Act → World → Prop} {Q : Exit → Act → World → Prop} (s x : Operand)
    (ho : o.op = .call { callee := .builtin .append, args := #[s, x], argTypes := #[27, 27] }) (base : Nat) (v : Value) (l0 : List Plc) (hs : a.eval s = v) (hown : PlcOwn W base v l0)
    (A : Option Addr) (m c : Nat) (l1 : List Plc) (hx : a.eval x = .slice A m c) (hm : l1.length = m) (hr : Row Plc.cells 8 W A l1) (hlen : l0.length + l1.length ≤ 1000000) (hbase : base ≤ W.heap.size)
    (h : ∀ v' w', PlcOwn w' base v' (l0 ++ l1) → Below base W w' → W.grownBy w' v.ownBlock → K (a.put o.dst v') w') : Oper.wp Try.prog o a W K Q := by
  subst hm
  exact wp_plcs W s x ho base v l0 hs hown A c l1 hx hr hlen hbase h
theorem Row.zero {α : Type} {enc : α → List Value} {k : Nat} {w : World} {A : Option Addr} {l : List α} (hk : ∀ x, (enc x).length = k) (h : l.length = 0) : Row enc k w A l := ⟨flat_length hk _, fun hn => by omega⟩

def RiseAll (l : List Run) : Prop := ∀ j (h : j < l.length), 1 ≤ l[j].many ∧ 0 ≤ l[j].first ∧ l[j].first + l[j].many ≤ 16 ∧ (∀ i, (hi : i + 1 = j) → l[i].first + l[i].many < l[j].first)
set_option maxRecDepth 100000 in
set_option maxHeartbeats 8000000 in
theorem RegionRuns_any (A : Option Addr) (l : List Plc) (c : Nat) (w : World) (h : PlsOk w A l) (hcap : l.length ≤ c ∧ c ≤ maxLen) :
    Calls Try.prog 5 #[.slice A l.length c] w fun e w' => e = .returned (.bool true) ∧ Below w.heap.size w w' := by
  have cF := Lib.hid (Free_any A c l w h)
  have hfree : freeOf l = if regErr l ≠ 0 then [] else runsOf l := rfl
  by_cases tv : regErr l = 0
  · rw [if_neg (by omega)] at hfree
    rw [hfree, tv] at cF
    obtain ⟨h8, hall, h16⟩ := reg_row tv
    have HMOD := Lib.hid (fun x hx => (hall x hx).1)
    have HALL := Lib.hid (fun x hx => many_ok (hall x hx).1)
    have hrise : RiseAll (runsOf l) := (rise_runs h16).each (Int.le_refl 0)
    have hsum := sum_all h16
    have hR9 : (runsOf l).length ≤ 9 := by have := runsFrom_length l 0; unfold runsOf; omega
    have HLESS := Lib.hid (show ∀ j (hj : j < l.length), regErr (l.eraseIdx j) = 0 ∧ sumRuns (runsOf (l.eraseIdx j)) = sumRuns (runsOf l) + manyOf l[j].m ∧ (∀ x ∈ runsOf (l.eraseIdx j), 0 ≤ x.many) ∧ (runsOf (l.eraseIdx j)).length ≤ 9 from fun j hj => by
      have h1 := sum_all (h16.erase j)
      have h2 := sumMods_erase hj
      have h3 := hsum
      have h4 := runsFrom_length (l.eraseIdx j) 0
      have h5 := List.length_eraseIdx_le l j
      exact ⟨regErr_erase tv j, by unfold runsOf; omega, fun x hx => (runs_many (h16.erase j) x hx).1, by unfold runsOf; omega⟩)
    change sumRuns (runsOf l) + _ = _ at hsum
    have hS0 := Lib.hid (show 0 ≤ sumRuns (runsOf l) from sumRuns_nonneg fun x hx => (runs_many h16 x hx).1)
    obtain ⟨R, hR⟩ : ∃ R, R = runsOf l := ⟨_, rfl⟩
    rw [← hR] at cF hR9 hsum hrise hS0
    simp only [← hR] at HLESS
    have HRISE := Lib.hid hrise
    have HSUM := Lib.hid hsum
    have HP := Lib.hid h
    have HC := Lib.hid hcap.1
    have HC2 := Lib.hid hcap.2
    clear h hall h16 hfree hrise hsum tv hR hcap
    go_enter Try.func5, Try.ntmps5
    go_wp2_with (first | (go_at_call 12; refine (cF.out).mono ?_; rintro e w1 ⟨⟨A1, c1, rfl, hr1⟩, hb1⟩; have s1 := hb1.size; have R1 := Lib.hid hr1; clear hr1) | (go_at_call 19; refine (regionBegun_any _).mono ?_; rintro e w2 ⟨rfl, hb2⟩; have s2 := hb2.size; have B2 := Lib.hid (hb1.trans (hb2.mono s1)); have R2 := Lib.hid (R1.out.below hb2)))
    clear cF
    go_loopw [5, 6] (fun v i wr => ∃ (j : Nat) (a : Int), j ≤ R.length ∧ i = .int .i64 j ∧ v = .int .i64 a ∧ 0 ≤ a ∧ a + sumRuns (R.drop j) = sumRuns R ∧ Below w2.heap.size w2 wr) (fun _ i _ => R.length - (intOf i).toNat)
    case atStart => exact ⟨0, 0, by omega, rfl, rfl, by omega, by simp, Below.refl _ _⟩
    case round =>
      obtain ⟨j, a, hj, rfl, rfl, ha, hE, hb⟩ := hrel
      have HB := Lib.hid hb
      by_cases hlt : j < R.length
      · have hlt' : (j : Int) < R.length := by omega
        obtain ⟨ad, rfl, hab, k0, k1⟩ := run_at R2.out hb j hlt
        have hx := HRISE.out j hlt
        have hn := sumRuns_next hlt
        have hn2 := sumRuns_nonneg (l := R.drop (j + 1)) fun x hx => by obtain ⟨i, hi, rfl⟩ := List.getElem_of_mem (List.mem_of_mem_drop hx); have := (HRISE.out i hi).1; omega
        have hs := HSUM.out
        have hs2 := sumMods_nonneg (l := l)
        obtain ⟨f, hf⟩ : ∃ f, f = R[j].first := ⟨_, rfl⟩
        obtain ⟨m, hm⟩ : ∃ m, m = R[j].many := ⟨_, rfl⟩
        rw [← hf, ← hm] at hx
        rw [← hf] at k0
        rw [← hm] at k1 hn
        obtain ⟨x1, x2, x3, x4⟩ := hx
        have q1 : IntKind.i64.wrap (a + m) = a + m := IntWalk.i64_in _ (by omega)
        have q2 : IntKind.i64.wrap (f + m) = f + m := IntWalk.i64_in _ (by omega)
        have d1 : decide (m < 1) = false := by simp; omega
        have d2 : decide (f < 0) = false := by simp; omega
        have d3 : decide (16 < f + m) = false := by simp; omega
        have HE := Lib.hid (show a + m + sumRuns (R.drop (j + 1)) = sumRuns R by omega)
        have HA2 := Lib.hid (show 0 ≤ a + m by omega)
        by_cases hj0 : 0 < j
        · have hj0' : (0 : Int) < j := by omega
          obtain ⟨k, hk⟩ : ∃ k, j = k + 1 := ⟨j - 1, by omega⟩
          have hkl : k < R.length := by omega
          obtain ⟨ad', e', _, g0, g1⟩ := run_at R2.out hb k hkl
          obtain rfl := Option.some.inj e'
          have x5 := x4 k hk.symm
          obtain ⟨f2, hf2⟩ : ∃ f2, f2 = (R[k]'hkl).first := ⟨_, rfl⟩
          obtain ⟨m2, hm2⟩ : ∃ m2, m2 = (R[k]'hkl).many := ⟨_, rfl⟩
          have y1 := HRISE.out k hkl
          rw [← hf2, ← hm2] at x5 y1
          rw [← hf2] at g0
          rw [← hm2] at g1
          have q3 : IntKind.i64.wrap ((j : Int) - 1) = k := by rw [IntWalk.i64_in _ (by omega)]; omega
          have q4 : IntKind.i64.wrap (f2 + m2) = f2 + m2 := IntWalk.i64_in _ (by omega)
          have hk1 : (k : Int) < R.length := by omega
          have hk0 : (0 : Int) ≤ k := by omega
          have d4 : decide (f ≤ f2 + m2) = false := by simp; omega
          clear hf hm hb hn hn2 hs hs2 hE x1 x2 x3 x4 x5 y1 hk hf2 hm2
          go_wp2_with fail
          go_quiet (fail)
          go_wp2_with fail
          go_roundw
          case rel => exact ⟨j + 1, a + m, by omega, by go_num, rfl, HA2.out, HE.out, below_drewN HB.out _⟩
          case measure => (simp [intOf]; try omega)
        · have hj0' : decide ((0 : Int) < j) = false := by simp; omega
          clear hf hm hb hn hn2 hs hs2 hE x1 x2 x3 x4
          go_wp2_with fail
          go_quiet (fail)
          go_wp2_with fail
          go_roundw
          case rel => exact ⟨j + 1, a + m, by omega, by go_num, rfl, HA2.out, HE.out, below_drewN HB.out _⟩
          case measure => (simp [intOf]; try omega)
      · rw [List.drop_eq_nil_of_le (by omega)] at hE
        simp only [sumRuns] at hE
        obtain ⟨S, hS⟩ : ∃ S, S = sumRuns R := ⟨_, rfl⟩
        rw [← hS] at hE HSUM hS0
        simp only [← hS] at HLESS
        obtain rfl : a = S := by omega
        have B4 := Lib.hid (B2.out.trans (HB.out.mono B2.out.size))
        clear hE hS hb HRISE
        go_wp2_with fail
        go_loopw [7] (fun i wr => ∃ (j : Nat), j ≤ l.length ∧ i = .int .i64 j ∧ Below w.heap.size w wr) (fun i _ => l.length - (intOf i).toNat)
        case atStart => exact ⟨0, by omega, rfl, B4.out⟩
        case round =>
          obtain ⟨j, hj, rfl, hb⟩ := hrel
          have HB := Lib.hid hb
          by_cases hlt : j < l.length
          · have hlt' : (j : Int) < l.length := by omega
            obtain ⟨ad, rfl, hab⟩ : ∃ ad, A = some ad ∧ ad.block < w.heap.size := by
              obtain ⟨ad, e, hab, _⟩ := plc_at HP.out.row hb j hlt
              exact ⟨ad, e, hab⟩
            have b1 : (0 : Int) ≤ j := by omega
            have b2 : (j : Int) ≤ c := by have := HC.out; omega
            have q1 : IntKind.i64.wrap ((j : Int) + 1) = (j : Int) + 1 := IntWalk.i64_in _ (by omega)
            have b3 : (j : Int) + 1 ≤ l.length := by omega
            have b4 : (l.length : Int) ≤ c := by have := HC.out; omega
            have b5 : (0 : Int) ≤ (j : Int) + 1 := by omega
            have hwz := hb.size
            obtain ⟨L1, hL1⟩ : ∃ L1, L1 = l.take j := ⟨_, rfl⟩
            obtain ⟨L2, hL2⟩ : ∃ L2, L2 = l.drop (j + 1) := ⟨_, rfl⟩
            obtain ⟨L, hL⟩ : ∃ L, L = l.eraseIdx j := ⟨_, rfl⟩
            have hLL : L1 ++ L2 = L := by rw [hL1, hL2, hL, List.eraseIdx_eq_take_drop_succ]
            have hl1 : L1.length = j := by rw [hL1, List.length_take]; omega
            have hl2 : L2.length = l.length - (j + 1) := by rw [hL2, List.length_drop]
            have RT := Lib.hid (show ∀ W, Below w.heap.size w W → Row Plc.cells 8 W (some ad) L1 from fun W hW => hL1 ▸ Row.take (enc := Plc.cells) (k := 8) (fun _ => rfl) (HP.out.row.below hW) j)
            have RD := Lib.hid (show ∀ W, Below w.heap.size w W → Row Plc.cells 8 W (if c = j + 1 then some ad else some (ad.add ((j + 1) * 8))) L2 from fun W hW => by
              split
              · exact Row.zero (fun _ => rfl) (by have := HC.out; omega)
              · exact hL2 ▸ Row.drop (enc := Plc.cells) (k := 8) (fun _ => rfl) (HP.out.row.below hW) (j + 1))
            have hLen1 := Lib.hid (show ([] : List Plc).length + L1.length ≤ 1000000 by simp; omega)
            have hLen2 := Lib.hid (show ([] ++ L1).length + L2.length ≤ 1000000 by simp; omega)
            have hEmp := Lib.hid ((PlcOwn.empty wr wr.heap.size (Nat.le_refl _)).drew)
            have hBE := Lib.hid (show Below wr.heap.size wr (wr.alloc (.cells #[] 46)).drew from ((Below.refl _ _).alloc (Nat.le_refl _) _).drew)
            have HXX := Lib.hid (show ∀ W', Below wr.heap.size wr W' → Below w.heap.size w W' from fun W' h => HB.out.trans (h.mono hwz))
            have hl0 : L.length ≤ 8 := by rw [hL]; have := List.length_eraseIdx_le l j; omega
            have HEACH := Lib.hid (show ∀ W, Below w.heap.size w W → ∀ x ∈ L, x.m.ok W from fun W hW x hx => (HP.out.each x (List.mem_of_mem_eraseIdx (hL ▸ hx))).below hW)
            have HL := Lib.hid (show regErr L = 0 ∧ sumRuns (runsOf L) = a + manyOf l[j].m ∧ (∀ x ∈ runsOf L, 0 ≤ x.many) ∧ (runsOf L).length ≤ 9 from hL ▸ HLESS.out j hlt)
            have HL1 := Lib.hid hl1
            have HL2 := Lib.hid hl2
            have HLL := Lib.hid hLL
            have HL0 := Lib.hid hl0
            have HA0 := Lib.hid (show Below wr.heap.size wr wr ∧ True from ⟨Below.refl _ _, trivial⟩)
            clear hL1 hL2 hL hLL hl1 hl2 hl0 hb
            go_wp2_with fail
            go_region_held3 (fun W' => Below wr.heap.size wr W' ∧ True) (first | exact HA0.out | exact ⟨HA0.out.1.drew, trivial⟩ | exact ⟨hBE.out, trivial⟩ | assumption) (first
              | (rw [if_pos (by rfl)]; refine wp_plcsN (wr.alloc (.cells #[] 46)).drew (.tmp 99) (.tmp 102) (by rfl) wr.heap.size (.slice (some ⟨wr.heap.size, 0, none⟩) 0 0) [] (by rfl) hEmp.out (some ad) j c L1 (by rfl) HL1.out (RT.out _ (HXX.out _ hBE.out)) hLen1.out hBE.out.size ?_; intro v1 wv1 hown1 hbv1 _; have hS1 : Below wr.heap.size wr wv1 ∧ True := ⟨hBE.out.trans hbv1, trivial⟩)
              | (rw [if_pos (by rfl)]; refine wp_plcsN wv1 (.tmp 103) (.tmp 107) (by rfl) wr.heap.size v1 ([] ++ L1) (by rfl) hown1 _ _ _ L2 (by rfl) HL2.out (RD.out _ (HXX.out _ hS1.1)) hLen2.out hS1.1.size ?_; intro v2 wv2 hown2 hbv2 _; have hS2 : Below wr.heap.size wr wv2 ∧ True := ⟨hS1.1.trans hbv2, trivial⟩)
              | fail)
            rw [List.nil_append, HLL.out] at hown2
            obtain ⟨A5, c5, rfl, hrow5⟩ := hown2.row
            have B5 := Lib.hid (HXX.out _ hS2.1)
            obtain ⟨z1, z2, z3, z4⟩ := HL.out
            have cF := Lib.hid (Free_any A5 c5 L wv2 ⟨hrow5, by have := HL0.out; unfold big; omega, HEACH.out _ B5.out⟩)
            have hfree : freeOf L = runsOf L := by unfold freeOf; rw [if_neg (by omega)]
            rw [hfree, z1] at cF
            have hx := HALL.out l[j] (List.getElem_mem _)
            have hmo := HP.out.each l[j] (List.getElem_mem _)
            have cS := Lib.hid (fun W (hb : Below w.heap.size w W) => Size_any (l[j]'hlt).m W (hmo.below hb))
            have HROW := Lib.hid (fun (W : World) (hbW : Below w.heap.size w W) => plc_at HP.out.row hbW j hlt)
            have he := HMOD.out l[j] (List.getElem_mem _)
            rw [he] at cS
            simp only [ne_eq, not_true_eq_false, if_false] at cS
            obtain ⟨y, hy⟩ : ∃ y, y = l[j]'hlt := ⟨_, rfl⟩
            rw [← hy] at hx cS HROW z2
            obtain ⟨M, hM⟩ : ∃ M, M = manyOf y.m := ⟨_, rfl⟩
            rw [← hM] at hx cS z2
            obtain ⟨G, hG⟩ : ∃ G, G = runsOf L := ⟨_, rfl⟩
            rw [← hG] at cF z2 z3 z4
            have hs := HSUM.out
            have hs2 := sumMods_nonneg (l := l)
            have q3 : IntKind.i64.wrap (a + M) = a + M := IntWalk.i64_in _ (by omega)
            have Z2 := Lib.hid z2
            have Z3 := Lib.hid z3
            have haM : a + M ≤ 20 := by omega
            clear RT RD HL1 HL2 hLen1 hLen2 hEmp hBE HA0 hown1 hbv1 hown2 hfree hx hmo he hy hM hG z1 z2 z3 hs hs2 hrow5 HLESS HMOD HALL hbv2
            generalize (if c = j + 1 then some ad else some (ad.add ((j + 1) * 8))) = A0
            go_wp2_with (first | (go_at_call 12; refine (cF.out).mono ?_; rintro e w6 ⟨⟨A6, c6, rfl, hr6⟩, hb6⟩; have R6 := Lib.hid hr6; have s6 := hb6.size; have B6 := Lib.hid (B5.out.trans (hb6.mono B5.out.size)); obtain ⟨ad', e', _, g0, g1, g2, g3, g4, g5, g6, g7⟩ := HROW.out _ B6.out; obtain rfl := Option.some.inj e') | (go_at_call 11; refine (cS.out _ B6.out).mono ?_; rintro e w7 ⟨rfl, hb7⟩; have B7 := Lib.hid (B6.out.trans (hb7.mono B6.out.size)); have R7 := Lib.hid (R6.out.below hb7)))
            go_loopw [13, 14] (fun v i wr => ∃ (k : Nat) (b : Int), k ≤ G.length ∧ i = .int .i64 k ∧ v = .int .i64 b ∧ 0 ≤ b ∧ b + sumRuns (G.drop k) = sumRuns G ∧ Below w7.heap.size w7 wr) (fun _ i _ => G.length - (intOf i).toNat)
            case atStart => exact ⟨0, 0, by omega, rfl, rfl, by omega, by simp, Below.refl _ _⟩
            case round =>
              obtain ⟨k, b, hk, rfl, rfl, hb0, hE, hb⟩ := hrel
              have HB := Lib.hid hb
              have hz := Z2.out
              by_cases hkl : k < G.length
              · have hkl' : (k : Int) < G.length := by omega
                obtain ⟨ag, rfl, hag, k0, k1⟩ := run_at R7.out hb k hkl
                have hn := sumRuns_next hkl
                have hn2 := sumRuns_nonneg (l := G.drop (k + 1)) fun x hx => Z3.out x (List.mem_of_mem_drop hx)
                have hn3 := Z3.out G[k] (List.getElem_mem _)
                obtain ⟨m, hm⟩ : ∃ m, m = G[k].many := ⟨_, rfl⟩
                rw [← hm] at k1 hn hn3
                have q5 : IntKind.i64.wrap (b + m) = b + m := IntWalk.i64_in _ (by omega)
                have HE := Lib.hid (show b + m + sumRuns (G.drop (k + 1)) = sumRuns G by omega)
                have ha2 : 0 ≤ b + m := by omega
                clear hm hb hn hn2 hn3 hE hz
                go_wp2_with fail
                go_roundw
                case rel => exact ⟨k + 1, b + m, by omega, by go_num, rfl, ha2, HE.out, HB.out⟩
                case measure => (simp [intOf]; try omega)
              · rw [List.drop_eq_nil_of_le (by omega)] at hE
                simp only [sumRuns] at hE
                obtain rfl : b = a + M := by omega
                have B8 := Lib.hid (B7.out.trans (HB.out.mono B7.out.size))
                clear hE hz hb
                go_wp2_with fail
                go_roundw
                case rel => exact ⟨j + 1, by omega, by go_num, B8.out⟩
                case measure => (simp [intOf]; try omega)
          · go_wp2_with fail
            go_ret
            exact ⟨rfl, HB.out⟩
  · rw [if_pos tv] at hfree
    rw [hfree] at cF
    obtain ⟨V, hV⟩ : ∃ V, V = regErr l := ⟨_, rfl⟩
    rw [← hV] at cF tv
    have tv' : (V != 0) = true := by simp [tv]
    clear h hfree hV tv
    go_enter Try.func5, Try.ntmps5
    go_wp2_with (first | (go_at_call 12; refine (cF.out).mono ?_; rintro e w1 ⟨⟨A1, c1, rfl, hr1⟩, hb1⟩; have s1 := hb1.size) | (go_at_call 19; refine (regionBegun_any _).mono ?_; rintro e w2 ⟨rfl, hb2⟩; have s2 := hb2.size; have B2 := Lib.hid (hb1.trans (hb2.mono s1))))
    go_ret
    exact ⟨by simp, B2.out⟩

set_option maxRecDepth 100000 in
theorem regionRuns_lifted (os : Os) (started : os.Started) (H : Type) (enc : TypeId × Value → H) :
    ReturnsInHanded {} Try.checked os 5 .any (Rows.regionRunsSpec.pre6 enc Try.prog Try.f5 Rows.regionRunsRow.domain false) (Rows.regionRunsSpec.post enc Try.prog Try.f5 false true false false) := by
  refine returnsInHanded_of_change_sized (C := Try.checked) Try.own started (by kernel_rfl) Try.func5
    (ChangeSpec.witness6 (enc := enc) (C := Try.checked) false ⟨#[], #[.slice none 0 0], []⟩ 8 (by kernel_rfl) (by kernel_rfl) (by kernel_rfl) (by kernel_rfl)) ?_
  intro W base args ds gs before hval0 hW hcnd hsz0 _
  have hval : ∀ (j : Nat) t v, Try.f5.params[j]? = some t → args[j]? = some v → Value.okWide Try.prog W .any base t v := hval0
  have hsz : (DataW.weightsEach Try.prog (Try.f5.params.toList ++ Rows.regionRunsSpec.plain.varTypes Try.prog) (ds ++ gs)).all (· ≤ reachBytes) = true := hsz0
  have hW' := hW
  obtain ⟨p, q, hA0, hV, rfl, hfz, hnd⟩ := hW
  have hA : DataW.TrodAll enc Try.prog W 0 (fun _ => true) true Try.f5.params.toList args.toList ds p := hA0
  rw [Try.params5] at hA hval hsz
  obtain ⟨v0, vs0, d0, ds0, p0, q0, hargs, rfl, rfl, h0, r0⟩ := trodAll_cons hA
  obtain ⟨rfl, rfl, rfl⟩ := trodAll_nil r0
  obtain rfl : args = #[v0] := by cases args; simp_all
  obtain ⟨rfl, rfl⟩ := trodVars_none hV
  have ft0 := fits_each hsz (j := 0) rfl rfl
  obtain ⟨lA, l, lc, rfl, ok0⟩ := open_Placeds (hval 0 27 v0 rfl rfl) h0 ft0
  refine (RegionRuns_any lA l lc W ok0 (placeds_cap h0)).mono fun e W' ⟨he, hb⟩ => ?_
  subst he
  exact ⟨_, rfl, law_post Try.laidOut hW' rfl (by decide +kernel) rfl Try.underlying4 rfl rfl rfl hb⟩

theorem regionRuns_holds : Rows.RegionRunsSaid :=
  OpenClaim.holds_of_wide 5 Try.f5 rfl rfl rfl rfl rfl rfl rfl ⟨rfl, rfl, rfl, rfl, rfl⟩ rfl rfl rfl rfl rfl (by kernel_rfl) Try.func5 (by kernel_rfl)
    (of_decide_eq_true (by kernel_rfl)) (by unfold Func.isWrapper; first | (rw [if_pos (by decide +kernel)]; kernel_rfl) | (rw [if_neg (by decide +kernel)]; exact ⟨rfl, rfl⟩))
    (fun os started H enc _ => regionRuns_lifted os started H enc)
#print axioms regionRuns_holds

end Go.Proofs.Ytdpacbdejfjkcaa
