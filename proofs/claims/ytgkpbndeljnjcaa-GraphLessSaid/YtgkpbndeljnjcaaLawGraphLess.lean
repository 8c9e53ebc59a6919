import Derived.Test.YtgkpbndeljnjcaaGrBegun
import Derived.Test.YtgkpbndeljnjcaaGrFacts
import Derived.Test.YtgkpbndeljnjcaaGrLens
import Derived.Test.YtgkpbndeljnjcaaPlcs2
/- GraphLess: without a module that nobody needs what others need is the same, but for it; and they stand in the same order. No condition. -/
namespace Go.Proofs.Ytgkpbndeljnjcaa
open Go.ChangeShapes Go.WideShapes Go.ChangeAt Go.RowKit Go.WideMaps Go.WideElems
open Go.ChangeMaps (setBlock shut_map_nil open_string shut_string keptBut_setBlock frozen?_setBlock heap_setBlock_same)
open Gs (Tx)

theorem but_in {x : Tx} {C : List Tx} {j : Nat} (h : j < C.length) (hm : C[j] ≠ x) : Gs.but x (C.take (j + 1)) = Gs.but x (C.take j) ++ [C[j]] := by
  unfold Gs.but; rw [List.take_succ_eq_append_getElem h, List.filter_append]; simp [hm]
theorem but_out {x : Tx} {C : List Tx} {j : Nat} (h : j < C.length) (hm : C[j] = x) : Gs.but x (C.take (j + 1)) = Gs.but x (C.take j) := by
  unfold Gs.but; rw [List.take_succ_eq_append_getElem h, List.filter_append]; simp [hm]
theorem but_le (x : Tx) (C : List Tx) (j : Nat) : (Gs.but x (C.take j)).length ≤ C.length := by
  unfold Gs.but
  have h1 := List.length_filter_le (fun a => decide (a ≠ x)) (C.take j)
  have h2 : (C.take j).length ≤ C.length := by rw [List.length_take]; omega
  omega

set_option maxRecDepth 100000 in
set_option maxHeartbeats 8000000 in
theorem GraphLess_any (A : Option Addr) (l : List Plc) (c : Nat) (n : Int) (w : World) (h : PlsOk w A l) (hcap : l.length ≤ c ∧ c ≤ maxLen) :
    Calls Try.prog 6 #[.slice A l.length c, .int .i64 n] w fun e w' => e = .returned (.bool true) ∧ Below w.heap.size w w' := by
  have hl := h.len
  have HP := Lib.hid h
  have HC := Lib.hid hcap.1
  have HC2 := Lib.hid hcap.2
  unfold big at hl
  clear h hcap
  by_cases hn0 : n < 0
  · go_enter Try.func6, Try.ntmps6
    go_wp2_with fail
    (with_reducible refine (graphBegun_any _).mono ?_); rintro e w0 ⟨rfl, hb0⟩
    have HB0 := Lib.hid hb0
    clear hb0
    go_wp2_with fail
    go_ret
    exact ⟨rfl, HB0.out⟩
  by_cases hn1 : (l.length : Int) ≤ n
  · have t0 : decide (n < 0) = false := decide_eq_false hn0
    clear hn0
    go_enter Try.func6, Try.ntmps6
    go_wp2_with fail
    (with_reducible refine (graphBegun_any _).mono ?_); rintro e w0 ⟨rfl, hb0⟩
    have HB0 := Lib.hid hb0
    clear hb0
    go_wp2_with fail
    go_ret
    exact ⟨rfl, HB0.out⟩
  obtain ⟨m, rfl⟩ : ∃ m : Nat, n = m := ⟨n.toNat, by omega⟩
  have hm : m < l.length := by omega
  have t0 : decide ((m : Int) < 0) = false := decide_eq_false hn0
  have t1 : decide (l.length ≤ m) = false := decide_eq_false (by omega)
  have hm' : (m : Int) < l.length := by omega
  clear hn0 hn1
  have KM := Lib.hid (fun W (hbW : Below w.heap.size w W) => plc_at HP.out.row hbW m hm)
  obtain ⟨ad, rfl, hab, _⟩ := plc_at HP.out.row (Below.refl _ _) m hm
  have cU := Lib.hid (fun W (hb : Below w.heap.size w W) => Users_any (some ad) c l l[m].m.name W (HP.out.below hb))
  have LU := Lib.hid (show (usersT l l[m].m.name).length ≤ big from Nat.le_trans (usersT_len l _) HP.out.len)
  have cN := Lib.hid (fun nm W (hb : Below w.heap.size w W) => Needs_any (some ad) c l nm W (HP.out.below hb))
  have LN := Lib.hid (fun nm => show (needsT l nm).length ≤ big from Nat.le_trans (needsT_len l nm) HP.out.len)
  have cO := Lib.hid (fun W (hb : Below w.heap.size w W) => Order_any (some ad) c l W (HP.out.below hb))
  have LO := Lib.hid (show (orderT l).length ≤ big from Nat.le_trans (orderT_len l) HP.out.len)
  have hL8 : grErr l = 0 → (orderT l).length ≤ 8 := fun h => Nat.le_trans (orderT_len l) (grErr_ok h).1
  have hX : ofErr l l[m].m.name ≠ 0 → usersT l l[m].m.name = [] := fun h => by unfold usersT; rw [if_pos h]
  have hG : ofErr l l[m].m.name = 0 → usersT l l[m].m.name = [] → grErr l = 0 ∧ l.length ≤ 8 ∧ (∀ x, tx x ∈ txs (lessL l m) → needsT (lessL l m) x = needsT l x ∧ ofErr l x = 0 ∧ ofErr (lessL l m) x = 0) ∧ orderErr (lessL l m) = orderErr l ∧ orderT (lessL l m) = Gs.but (tx l[m].m.name) (orderT l) := fun h1 h2 => by
    obtain ⟨hg, _⟩ := ofErr_ok h1
    obtain ⟨h8, _⟩ := grErr_ok hg
    obtain ⟨o1, o2⟩ := order_lessT hg hm h2
    exact ⟨hg, h8, fun x hx => needs_less hg hm h2 hx, o1, o2⟩
  obtain ⟨nm, hnm⟩ : ∃ nm, nm = l[m].m.name := ⟨_, rfl⟩
  simp only [← hnm] at KM cU LU hX hG
  clear hnm
  generalize hUU : usersT l nm = U at *
  generalize hEE : ofErr l nm = E at *
  have HX := Lib.hid hX
  have HG := Lib.hid hG
  clear hX hG hUU hEE
  go_enter Try.func6, Try.ntmps6
  go_wp2_with fail
  (with_reducible refine (graphBegun_any _).mono ?_); rintro e w0 ⟨rfl, hb0⟩
  have HB0 := Lib.hid hb0
  obtain ⟨_, ea, _, m0, _⟩ := KM.out w0 hb0
  obtain rfl := Option.some.inj ea
  clear hb0
  go_wp2_with fail
  (with_reducible refine (cU.out _ HB0.out).mono ?_); rintro e w1 ⟨⟨v1, rfl, ht1⟩, hb1⟩
  obtain ⟨A1, d1, rfl, _⟩ := ht1.form
  have HB1 := Lib.hid (HB0.out.trans (hb1.mono HB0.out.size))
  clear ht1 hb1 cU m0
  by_cases tE : E = 0
  · subst tE
    cases U with
    | cons x r =>
      have tU : (0 : Int) < ((x :: r).length : Nat) := by rw [List.length_cons]; omega
      go_wp2_with fail
      go_ret
      exact ⟨rfl, HB1.out⟩
    | nil =>
      obtain ⟨g1, g2, g3, g4, g5⟩ := HG.out rfl rfl
      have G3 := Lib.hid g3
      have G4 := Lib.hid g4
      have G5 := Lib.hid g5
      have G8 := Lib.hid g2
      have LO8 := Lib.hid (hL8 g1)
      clear hL8
      have b1 : (0 : Int) ≤ m := by omega
      have b2 : (m : Int) ≤ c := by have := HC.out; omega
      have q1 : IntKind.i64.wrap ((m : Int) + 1) = (m : Int) + 1 := IntWalk.i64_in _ (by omega)
      have b3 : (m : Int) + 1 ≤ l.length := by omega
      have b4 : (l.length : Int) ≤ c := by have := HC.out; omega
      have b5 : (0 : Int) ≤ (m : Int) + 1 := by omega
      obtain ⟨L1, hL1⟩ : ∃ L1, L1 = l.take m := ⟨_, rfl⟩
      obtain ⟨L2, hL2⟩ : ∃ L2, L2 = l.drop (m + 1) := ⟨_, rfl⟩
      have hl1 : L1.length = m := by rw [hL1, List.length_take]; omega
      have hl2 : L2.length = l.length - (m + 1) := by rw [hL2, List.length_drop]
      have HLL := Lib.hid (show L1 ++ L2 = lessL l m by rw [hL1, hL2]; rfl)
      have RT := Lib.hid (show ∀ W, Below w.heap.size w W → Row Plc.cells 8 W (some ad) L1 from fun W hW => hL1 ▸ Row.take (enc := Plc.cells) (k := 8) (fun _ => rfl) (HP.out.row.below hW) m)
      have RD := Lib.hid (show ∀ W, Below w.heap.size w W → Row Plc.cells 8 W (if c = m + 1 then some ad else some (ad.add ((m + 1) * 8))) L2 from fun W hW => by
        split
        · exact Row.zero (fun _ => rfl) (by have := HC.out; omega)
        · exact hL2 ▸ Row.drop (enc := Plc.cells) (k := 8) (fun _ => rfl) (HP.out.row.below hW) (m + 1))
      have hLen1 := Lib.hid (show ([] : List Plc).length + L1.length ≤ 1000000 by simp; omega)
      have hLen2 := Lib.hid (show ([] ++ L1).length + L2.length ≤ 1000000 by simp; omega)
      have hEmp := Lib.hid ((PlcOwn.empty w1 w1.heap.size (Nat.le_refl _)).drew)
      have hBE := Lib.hid (show Below w1.heap.size w1 (w1.alloc (.cells #[] 44)).drew from ((Below.refl _ _).alloc (Nat.le_refl _) _).drew)
      have HXX := Lib.hid (show ∀ W', Below w1.heap.size w1 W' → Below w.heap.size w W' from fun W' h => HB1.out.trans (h.mono HB1.out.size))
      have HL1 := Lib.hid hl1
      have HL2 := Lib.hid hl2
      have HA0 := Lib.hid (show Below w1.heap.size w1 w1 ∧ True from ⟨Below.refl _ _, trivial⟩)
      clear hL1 hL2 hl1 hl2 g1 g2 g3 g4 g5 hab
      go_wp2_with fail
      go_region_held3 (fun W' => Below w1.heap.size w1 W' ∧ True) (first | exact HA0.out | exact ⟨HA0.out.1.drew, trivial⟩ | exact ⟨hBE.out, trivial⟩ | assumption) (first
        | (rw [if_pos (by rfl)]; refine wp_plcsN (w1.alloc (.cells #[] 44)).drew (.tmp 53) (.tmp 56) (by rfl) w1.heap.size (.slice (some ⟨w1.heap.size, 0, none⟩) 0 0) [] (by rfl) hEmp.out (some ad) m c L1 (by rfl) HL1.out (RT.out _ (HXX.out _ hBE.out)) hLen1.out hBE.out.size ?_; intro v1 wv1 hown1 hbv1 _; have hS1 : Below w1.heap.size w1 wv1 ∧ True := ⟨hBE.out.trans hbv1, trivial⟩)
        | (rw [if_pos (by rfl)]; refine wp_plcsN wv1 (.tmp 57) (.tmp 61) (by rfl) w1.heap.size v1 ([] ++ L1) (by rfl) hown1 _ _ _ L2 (by rfl) HL2.out (RD.out _ (HXX.out _ hS1.1)) hLen2.out hS1.1.size ?_; intro v2 wv2 hown2 hbv2 _; have hS2 : Below w1.heap.size w1 wv2 ∧ True := ⟨hS1.1.trans hbv2, trivial⟩)
        | fail)
      rw [List.nil_append, HLL.out] at hown2
      obtain ⟨A5, c5, rfl, hrow5⟩ := hown2.row
      have B5 := Lib.hid (HXX.out _ hS2.1)
      have HP5 := Lib.hid (show PlsOk wv2 A5 (lessL l m) from ⟨hrow5, by have := less_length hm; unfold big; omega, fun x hx => (HP.out.each x (less_mem hx)).below B5.out⟩)
      clear RT RD HL1 HL2 hLen1 hLen2 hEmp hBE HA0 hown1 hbv1 hown2 hrow5 hbv2 hS1 hS2 HLL HXX
      generalize (if c = m + 1 then some ad else some (ad.add ((m + 1) * 8))) = A0
      have HLQ := Lib.hid (show (lessL l m).length ≤ 8 by have := less_length hm; have := G8.out; omega)
      obtain ⟨L, hL⟩ : ∃ L, L = lessL l m := ⟨_, rfl⟩
      rw [← hL] at HP5 G3 G4 G5 HLQ
      simp only [← hL]
      clear hL
      have cM := Lib.hid (fun nm W (hb : Below wv2.heap.size wv2 W) => Needs_any A5 c5 L nm W (HP5.out.below hb))
      have cP := Lib.hid (fun W (hb : Below wv2.heap.size wv2 W) => Order_any A5 c5 L W (HP5.out.below hb))
      go_wp2_with fail
      go_loopw [8] (fun i wr => ∃ j : Nat, j ≤ L.length ∧ i = .int .i64 j ∧ Below wv2.heap.size wv2 wr) (fun i _ => L.length - (intOf i).toNat)
      case atStart => exact ⟨0, by omega, rfl, Below.refl _ _⟩
      case round =>
        obtain ⟨j, hj, rfl, hb⟩ := hrel
        have HB := Lib.hid hb
        have hLq := HLQ.out
        by_cases hlt : j < L.length
        · have hlt' : (j : Int) < L.length := by omega
          have KJ := Lib.hid (fun W (hbW : Below wv2.heap.size wv2 W) => plc_at HP5.out.row hbW j hlt)
          obtain ⟨bd, rfl, hbb, k0, _⟩ := plc_at HP5.out.row hb j hlt
          obtain ⟨z1, z2, z3⟩ := G3.out L[j].m.name (by exact List.mem_map.2 ⟨_, List.getElem_mem hlt, rfl⟩)
          have n1 := Lib.hid (fun W hb => cN.out L[j].m.name W hb)
          have n2 := Lib.hid (fun W hb => cM.out L[j].m.name W hb)
          have n3 := Lib.hid (LN.out L[j].m.name)
          simp only [z1, z2, z3] at n1 n2
          obtain ⟨s, hs⟩ : ∃ s, s = L[j].m.name := ⟨_, rfl⟩
          simp only [← hs] at n1 n2 n3 k0 KJ
          obtain ⟨N, hN⟩ : ∃ N, N = needsT l s := ⟨_, rfl⟩
          simp only [← hN] at n1 n2 n3
          clear hs hN z1 z2 z3 hb
          go_wp2_with fail
          (with_reducible refine (n1.out _ (B5.out.trans (HB.out.mono B5.out.size))).mono ?_); rintro e w6 ⟨⟨v6, rfl, ht6⟩, hb6⟩
          obtain ⟨A6, c6, rfl, hr6⟩ := ht6.form
          have HR6 := Lib.hid hr6
          have HB6 := Lib.hid (HB.out.trans (hb6.mono HB.out.size))
          obtain ⟨_, ea, _, k1, _⟩ := KJ.out _ HB6.out
          obtain rfl := Option.some.inj ea
          clear ht6 hr6 hb6 k0
          go_wp2_with fail
          (with_reducible refine (n2.out _ HB6.out).mono ?_); rintro e w7 ⟨⟨v7, rfl, ht7⟩, hb7⟩
          obtain ⟨A7, c7, rfl, hr7⟩ := ht7.form
          have sm := Lib.hid (same_any A6 A7 c6 c7 N.length N rfl w7 (HR6.out.below hb7) hr7 n3.out)
          have HB7 := Lib.hid (HB6.out.trans (hb7.mono HB6.out.size))
          clear ht7 hr7 hb7 k1
          go_wp2_with fail
          (with_reducible refine (sm.out).mono ?_); rintro e w8 ⟨rfl, hb8⟩
          have HB8 := Lib.hid (HB7.out.trans (hb8.mono HB7.out.size))
          clear hb8
          go_wp2_with fail
          go_roundw
          case rel => exact ⟨j + 1, by omega, by go_num, HB8.out⟩
          case measure => (simp [intOf]; try omega)
        · have hlt' : decide (j < L.length) = false := decide_eq_false hlt
          have HBW := Lib.hid (B5.out.trans (hb.mono B5.out.size))
          clear hb hlt
          go_wp2_with fail
          (with_reducible refine (cO.out _ HBW.out).mono ?_); rintro e w6 ⟨⟨v6, rfl, ht6⟩, hb6⟩
          obtain ⟨A6, c6, rfl, hr6⟩ := ht6.form
          have HR6 := Lib.hid hr6
          have HB6 := Lib.hid (HB.out.trans (hb6.mono HB.out.size))
          have HW6 := Lib.hid (HBW.out.trans (hb6.mono HBW.out.size))
          clear ht6 hr6 hb6
          have p1 := Lib.hid (fun W hb => cP.out W hb)
          rw [G4.out, G5.out] at p1
          generalize orderErr l = F at *
          generalize orderT l = C at *
          go_wp2_with fail
          (with_reducible refine (p1.out _ HB6.out).mono ?_); rintro e w7 ⟨⟨v7, rfl, ht7⟩, hb7⟩
          obtain ⟨A7, c7, rfl, hr7⟩ := ht7.form
          have HR67 := Lib.hid (HR6.out.below hb7)
          have HR7 := Lib.hid hr7
          have HB7 := Lib.hid (HB6.out.trans (hb7.mono HB6.out.size))
          have HW7 := Lib.hid (HW6.out.trans (hb7.mono HW6.out.size))
          clear ht7 hr7 hb7
          have tFF : (F != F) = false := by simp
          by_cases tF : F = 0
          · subst tF
            go_wp2_with fail
            clear tFF
            have hC := LO.out
            unfold big at hC
            go_loopw [16, 17] (fun v i wr => ∃ k : Nat, k ≤ C.length ∧ i = .int .i64 k ∧ TR wr w7.heap.size v (Gs.but (tx nm) (C.take k)) ∧ Below w7.heap.size w7 wr) (fun _ i _ => C.length - (intOf i).toNat)
            case atStart => exact ⟨0, by omega, rfl, TR.nil _ _, Below.refl _ _⟩
            case round =>
              obtain ⟨k, hk, rfl, ht, hb⟩ := hrel
              have HT := Lib.hid ht
              have HBK := Lib.hid hb
              clear ht
              by_cases hkl : k < C.length
              · have hkl' : (k : Int) < C.length := by omega
                obtain ⟨cd, rfl, hcb, k0⟩ := tx_at HR67.out hb k hkl
                obtain ⟨_, ea, _, m0, _⟩ := KM.out _ (HW7.out.trans (hb.mono HW7.out.size))
                obtain rfl := Option.some.inj ea
                have HIN := Lib.hid (but_in (x := tx nm) hkl)
                have HOUT := Lib.hid (but_out (x := tx nm) hkl)
                have HBL := Lib.hid (show (Gs.but (tx nm) (C.take k)).length ≤ 1000000 by have := but_le (tx nm) C k; have := LO8.out; omega)
                have HZ := Lib.hid hb.size
                have k0' := k0
                obtain ⟨t, htt⟩ : ∃ t, t = C[k] := ⟨_, rfl⟩
                rw [← htt] at k0 k0' HIN HOUT
                obtain ⟨s, hs⟩ : ∃ s, s = bs t := ⟨_, rfl⟩
                rw [← hs] at k0 k0'
                by_cases he : s = nm
                · have he' := str_eq he
                  have e1 := Lib.hid (HOUT.out (by rw [← he, hs, tx_bs]))
                  clear he hs htt hb k0'
                  go_wp2_with fail
                  go_quiet (fail)
                  go_wp2_with fail
                  go_roundw
                  case rel => exact ⟨k + 1, by omega, by go_num, by rw [e1.out]; exact HT.out, below_drewN HBK.out _⟩
                  case measure => (simp [intOf]; try omega)
                · have he' := str_ne he
                  have e1 := Lib.hid (HIN.out (fun e => he (by rw [hs, e, bs_tx])))
                  have HSX := Lib.hid hs
                  clear he hs htt hb k0'
                  go_wp2_with fail
                  go_quiet (fail)
                  go_wp2_with (at_builtin; refine append_tr (wr.drewN _) rfl _ _ rfl w7.heap.size _ (Gs.but (tx nm) (C.take k)) s rfl rfl (by exact HT.out) HBL.out HZ.out ?_; intro v' w8 ht8 hb8)
                  go_roundw
                  case rel => exact ⟨k + 1, by omega, by go_num, by rw [e1.out]; rw [HSX.out, tx_bs] at ht8; exact ht8, (below_drewN HBK.out _).trans hb8⟩
                  case measure => (simp [intOf]; try omega)
              · have hkl' : decide (k < C.length) = false := decide_eq_false hkl
                have eC : C.take k = C := List.take_of_length_le (by omega)
                rw [eC] at HT
                obtain ⟨A8, c8, hv8, hr8⟩ := HT.out.form
                subst hv8
                have sm := Lib.hid (same_any A7 A8 c7 c8 (Gs.but (tx nm) C).length (Gs.but (tx nm) C) rfl wr (HR7.out.below hb) hr8 (by have := but_le (tx nm) C C.length; rw [List.take_length] at this; have := LO.out; omega))
                clear hr8 eC hb hkl
                go_wp2_with fail
                (with_reducible refine (sm.out).mono ?_); rintro e w9 ⟨rfl, hb9⟩
                have HB9 := Lib.hid (HBK.out.trans (hb9.mono HBK.out.size))
                clear hb9
                go_wp2_with fail
                go_ret
                exact ⟨rfl, HW7.out.trans (HB9.out.mono HW7.out.size)⟩
          · have tF' : (F != 0) = true := by simp [tF]
            have tFe : (F == F) = true := by simp
            go_wp2_with fail
            go_ret
            exact ⟨rfl, HW7.out⟩
  · have tE' : (E != 0) = true := by simp [tE]
    have tE'' : (E == 0) = false := by simp [tE]
    have HXE := Lib.hid (HX.out tE)
    rw [HXE.out]
    clear tE
    go_wp2_with fail
    go_ret
    exact ⟨rfl, HB1.out⟩

set_option maxRecDepth 100000 in
theorem graphLess_lifted (os : Os) (started : os.Started) (H : Type) (enc : TypeId × Value → H) :
    ReturnsInHanded {} Try.checked os 6 .any (Rows.graphLessSpec.pre6 enc Try.prog Try.f6 Rows.graphLessRow.domain false) (Rows.graphLessSpec.post enc Try.prog Try.f6 false true false false) := by
  refine returnsInHanded_of_change_sized (C := Try.checked) Try.own started (by kernel_rfl) Try.func6
    (ChangeSpec.witness6 (enc := enc) (C := Try.checked) false ⟨#[], #[.slice none 0 0, .int .i64 0], []⟩ 8 (by kernel_rfl) (by kernel_rfl) (by kernel_rfl) (by kernel_rfl)) ?_
  intro W base args ds gs before hval0 hW hcnd hsz0 _
  have hval : ∀ (j : Nat) t v, Try.f6.params[j]? = some t → args[j]? = some v → Value.okWide Try.prog W .any base t v := hval0
  have hsz : (DataW.weightsEach Try.prog (Try.f6.params.toList ++ Rows.graphLessSpec.plain.varTypes Try.prog) (ds ++ gs)).all (· ≤ reachBytes) = true := hsz0
  have hW' := hW
  obtain ⟨p, q, hA0, hV, rfl, hfz, hnd⟩ := hW
  have hA : DataW.TrodAll enc Try.prog W 0 (fun _ => true) true Try.f6.params.toList args.toList ds p := hA0
  rw [Try.params6] at hA hval hsz
  obtain ⟨v0, vs0, d0, ds0, p0, q0, hargs, rfl, rfl, h0, r0⟩ := trodAll_cons hA
  obtain ⟨v1, vs1, d1, ds1, p1, q1, rfl, rfl, rfl, h1, r1⟩ := trodAll_cons r0
  obtain ⟨rfl, rfl, rfl⟩ := trodAll_nil r1
  obtain rfl : args = #[v0, v1] := by cases args; simp_all
  obtain ⟨rfl, rfl⟩ := trodVars_none hV
  have ft0 := fits_each hsz (j := 0) rfl rfl
  obtain ⟨lA, l, lc, rfl, ok0⟩ := open_Placeds (hval 0 22 v0 rfl rfl) h0 ft0
  obtain ⟨n, rfl, rfl, rfl, w1⟩ := open_int Try.underlying3 (hval 1 3 v1 rfl rfl) h1
  refine (GraphLess_any lA l lc n W ok0 (placeds_cap h0)).mono fun e W' ⟨he, hb⟩ => ?_
  subst he
  exact ⟨_, rfl, law_post Try.laidOut hW' rfl (by decide +kernel) rfl Try.underlying4 rfl rfl rfl hb⟩

theorem graphLess_holds : Rows.GraphLessSaid :=
  OpenClaim.holds_of_wide 6 Try.f6 rfl rfl rfl rfl rfl rfl rfl ⟨rfl, rfl, rfl, rfl, rfl⟩ rfl rfl rfl rfl rfl (by kernel_rfl) Try.func6 (by kernel_rfl)
    (of_decide_eq_true (by kernel_rfl)) (by unfold Func.isWrapper; first | (rw [if_pos (by decide +kernel)]; kernel_rfl) | (rw [if_neg (by decide +kernel)]; exact ⟨rfl, rfl⟩))
    (fun os started H enc _ => graphLess_lifted os started H enc)
#print axioms graphLess_holds


end Go.Proofs.Ytgkpbndeljnjcaa
