import Derived.Test.YtgkpbndeljnjcaaGrBegun
import Derived.Test.YtgkpbndeljnjcaaGrFacts
import Derived.Test.YtgkpbndeljnjcaaGrLens
import Derived.Test.YtgkpbndeljnjcaaRNeedsW
import Derived.Test.YtgkpbndeljnjcaaOpen
/- GraphOrder: in order each stands behind all that it needs, and each is there once. No condition. -/
namespace Go.Proofs.Ytgkpbndeljnjcaa
open Go.ChangeShapes Go.WideShapes Go.ChangeAt Go.RowKit Go.WideMaps Go.WideElems
open Go.ChangeMaps (setBlock shut_map_nil open_string shut_string keptBut_setBlock frozen?_setBlock heap_setBlock_same)
open Gs (Tx)

theorem TR.capd {w : World} {base : Nat} {v : Value} {ss : List Tx} (h : TR w base v ss) : ∃ (A : Option Addr) (c : Nat), v = .slice A ss.length c ∧ TxRow w A ss ∧ ss.length ≤ c := by
  obtain ⟨A, c, e, hr, hc⟩ := TOwn.form h
  rw [List.length_map] at e hc
  exact ⟨A, c, e, hr, hc⟩
theorem TxRow.take {w : World} {A : Option Addr} {ss : List Tx} (h : TxRow w A ss) (i : Nat) : TxRow w A (ss.take i) := by
  show Row strCells 1 w A ((ss.take i).map bs)
  have hk : ∀ x, (strCells x).length = 1 := fun _ => rfl
  refine ⟨flat_length hk _, fun hn => ?_⟩
  rw [List.length_map, List.length_take] at hn
  obtain ⟨ad, e, hb, hc⟩ := h.2 (by rw [List.length_map]; omega)
  refine ⟨ad, e, hb, fun j u hu => hc j u ?_⟩
  rw [List.map_take] at hu
  conv => lhs; rw [← List.take_append_drop i (ss.map bs)]
  rw [List.flatMap_append, List.getElem?_append_left]
  · exact hu
  · exact (List.getElem?_eq_some_iff.1 hu).1

set_option maxRecDepth 100000 in
set_option maxHeartbeats 8000000 in
theorem GraphOrder_any (A : Option Addr) (l : List Plc) (c : Nat) (w : World) (h : PlsOk w A l) :
    Calls Try.prog 5 #[.slice A l.length c] w fun e w' => e = .returned (.bool true) ∧ Below w.heap.size w w' := by
  have hl := h.len
  have LC := Lib.hid (show (orderT l).length ≤ big from Nat.le_trans (orderT_len l) hl)
  have c1 := Lib.hid (fun W (hb : Below w.heap.size w W) => Order_any A c l W (h.below hb))
  have c2 := Lib.hid (fun nm W (hb : Below w.heap.size w W) => Needs_any A c l nm W (h.below hb))
  have LN := Lib.hid (fun nm => show (needsT l nm).length ≤ big from Nat.le_trans (needsT_len l nm) hl)
  have hX : orderErr l ≠ 0 → orderT l = [] := fun h => by unfold orderT; rw [if_pos h]
  have hO : orderErr l = 0 → (orderT l).length = l.length ∧ ∀ i (hi : i < (orderT l).length), ofErr l (bs (orderT l)[i]) = 0 ∧ (orderT l)[i] ∉ (orderT l).take i ∧ ∀ t ∈ needsT l (bs (orderT l)[i]), t ∈ (orderT l).take i := fun h => by
    obtain ⟨hg, _⟩ := order_ok h
    obtain ⟨_, _, hn⟩ := grErr_ok hg
    have hp := (order_perm h).1
    refine ⟨by rw [hp.length_eq, txs_length], fun i hi => ?_⟩
    have hm : (orderT l)[i] ∈ txs l := hp.subset (List.getElem_mem hi)
    have hz : ofErr l (bs (orderT l)[i]) = 0 := of_zero hg (by rw [tx_bs]; exact hm)
    refine ⟨hz, fun hin => ?_, fun t ht => ?_⟩
    · have hnd := hp.nodup_iff.2 hn
      obtain ⟨k, hk, e⟩ := List.getElem_of_mem hin
      rw [List.getElem_take] at e
      rw [List.length_take] at hk
      exact List.pairwise_iff_getElem.1 hnd k i (by omega) hi (by omega) e
    · rw [needs_mem hz, tx_bs] at ht
      exact order_needs h (List.getElem?_eq_getElem hi) ht
  clear h
  generalize orderErr l = E at *
  generalize orderT l = C at *
  have HX := Lib.hid hX
  have HO := Lib.hid hO
  unfold big at hl
  clear hX hO
  go_enter Try.func5, Try.ntmps5
  go_wp2_with fail
  (with_reducible refine (c1.out _ (Below.refl _ _)).mono ?_); rintro e w1 ⟨⟨v1, rfl, ht1⟩, hb1⟩
  obtain ⟨A1, d1, rfl, hr1, hcap⟩ := ht1.capd
  have HR1 := Lib.hid hr1
  have HCAP := Lib.hid hcap
  have HB1 := Lib.hid hb1
  clear ht1 hr1 hb1 c1 hcap
  go_wp2_with fail
  (with_reducible refine (graphBegun_any _).mono ?_); rintro e w2 ⟨rfl, hb2⟩
  have HR2 := Lib.hid (HR1.out.below hb2)
  have HB2 := Lib.hid (HB1.out.trans (hb2.mono HB1.out.size))
  clear hb2
  by_cases t1 : E = 0
  · subst t1
    obtain ⟨O1, O2⟩ := HO.out rfl
    have HO2 := Lib.hid O2
    have HLEN := Lib.hid O1
    have t2 : ((C.length : Int) != l.length) = false := by rw [O1]; simp
    clear O1 O2 HO HX
    go_wp2_with fail
    clear t2
    go_loopw [5] (fun i wr => ∃ j : Nat, j ≤ C.length ∧ i = .int .i64 j ∧ Below w2.heap.size w2 wr) (fun i _ => C.length - (intOf i).toNat)
    case atStart => exact ⟨0, by omega, rfl, Below.refl _ _⟩
    case round =>
      obtain ⟨j, hj, rfl, hb⟩ := hrel
      have HB := Lib.hid hb
      have hlen := LC.out
      unfold big at hlen
      by_cases hlt : j < C.length
      · have hlt' : (j : Int) < C.length := by omega
        have b1 : (0 : Int) ≤ j := by omega
        have b2 : (j : Int) ≤ d1 := by have := HCAP.out; omega
        obtain ⟨ad, rfl, hab, k0⟩ := tx_at HR2.out hb j hlt
        obtain ⟨o1, o2, o3⟩ := HO2.out j hlt
        have cN := Lib.hid (c2.out (bs C[j]) wr (HB2.out.trans (hb.mono HB2.out.size)))
        have LNJ := Lib.hid (LN.out (bs C[j]))
        rw [o1] at cN
        have HRT := Lib.hid (fun W (hb : Below w2.heap.size w2 W) => TxRow.take (HR2.out.below hb) j)
        have hTL : (C.take j).length = j := by rw [List.length_take]; omega
        have hHA := fun s W (hb : Below w2.heap.size w2 W) => has_any (some ad) d1 (C.take j) s W (HRT.out W hb) (by unfold big; omega)
        rw [hTL] at hHA
        have HHA := Lib.hid hHA
        have h1 := Lib.hid (fun W (hb : Below w2.heap.size w2 W) => HHA.out (bs C[j]) W hb)
        simp only [tx_bs, decide_eq_false o2] at h1
        obtain ⟨N, hN⟩ : ∃ N, N = needsT l (bs C[j]) := ⟨_, rfl⟩
        rw [← hN] at cN o3 LNJ
        have HN3 := Lib.hid o3
        have hj8 : (C.take j).length ≤ 1000000 ∨ True := .inr trivial
        obtain ⟨s, hs⟩ : ∃ s, s = bs C[j] := ⟨_, rfl⟩
        simp only [← hs] at cN h1 k0
        clear o1 o2 o3 hTL hHA hN hs hb hj8
        go_wp2_with fail
        (with_reducible refine (cN.out).mono ?_); rintro e w5 ⟨⟨v5, rfl, ht5⟩, hb5⟩
        obtain ⟨A5, d5, rfl, hr5⟩ := ht5.form
        have HR5 := Lib.hid hr5
        have HB5 := Lib.hid (HB.out.trans (hb5.mono HB.out.size))
        have k1 := (hb5.cell (p := ad.add j) (by rw [block_of_add]; have := HB.out.size; omega)).trans k0
        clear ht5 hr5 hb5
        go_wp2_with fail
        go_quiet ((go_at_call 19; exact quiet_any (h1.out _ (below_drewN HB5.out _))))
        go_wp2_with fail
        clear h1 k0 k1
        go_loopw [8] (fun i wr => ∃ k q : Nat, k ≤ N.length ∧ i = .int .i64 k ∧ wr = w5.drewN q) (fun i _ => N.length - (intOf i).toNat)
        case atStart => exact ⟨0, _, by omega, rfl, rfl⟩
        case round =>
          obtain ⟨k, q, hk, rfl, hwr⟩ := hrel
          obtain ⟨wo, hwo⟩ : ∃ wo : World, wo = wr := ⟨_, rfl⟩
          subst hwo
          have HBO := Lib.hid (show Below w2.heap.size w2 wo from hwr ▸ below_drewN HB5.out q)
          have HRO := Lib.hid (show Below w5.heap.size w5 wo from hwr ▸ below_drewN (Below.refl _ _) q)
          have HWO := Lib.hid hwr
          have hLN := LNJ.out
          unfold big at hLN
          clear hwr
          by_cases hkl : k < N.length
          · have hkl' : (k : Int) < N.length := by omega
            obtain ⟨bd, rfl, hbb, n0⟩ := tx_at HR5.out HRO.out k hkl
            have h2 := Lib.hid (fun W (hb : Below w2.heap.size w2 W) => HHA.out (bs N[k]) W hb)
            have hin := HN3.out N[k] (List.getElem_mem _)
            simp only [tx_bs, decide_eq_true hin] at h2
            obtain ⟨s2, hs2⟩ : ∃ s2, s2 = bs N[k] := ⟨_, rfl⟩
            simp only [← hs2] at h2 n0
            clear hs2 hin
            go_wp2_with fail
            go_quiet ((go_at_call 19; exact quiet_any (h2.out _ (below_drewN HBO.out _))))
            go_wp2_with fail
            go_roundw
            case rel => exact ⟨k + 1, _, by omega, by go_num, (by rw [HWO.out, World.drewN_drewN])⟩
            case measure => (simp [intOf]; try omega)
          · have hkl' : decide (k < N.length) = false := decide_eq_false hkl
            go_wp2_with fail
            go_roundw
            case rel => exact ⟨j + 1, by omega, by go_num, HBO.out⟩
            case measure => (simp [intOf]; try omega)
      · have hlt' : decide (j < C.length) = false := decide_eq_false hlt
        clear hlen hb
        go_wp2_with fail
        go_ret
        exact ⟨rfl, HB2.out.trans (HB.out.mono HB2.out.size)⟩
  · have t1' : (E != 0) = true := by simp [t1]
    have HXE := Lib.hid (HX.out t1)
    rw [HXE.out]
    clear t1
    go_wp2_with fail
    go_ret
    exact ⟨rfl, HB2.out⟩

set_option maxRecDepth 100000 in
theorem graphOrder_lifted (os : Os) (started : os.Started) (H : Type) (enc : TypeId × Value → H) :
    ReturnsInHanded {} Try.checked os 5 .any (Rows.graphOrderSpec.pre6 enc Try.prog Try.f5 Rows.graphOrderRow.domain false) (Rows.graphOrderSpec.post enc Try.prog Try.f5 false true false false) := by
  refine returnsInHanded_of_change_sized (C := Try.checked) Try.own started (by kernel_rfl) Try.func5
    (ChangeSpec.witness6 (enc := enc) (C := Try.checked) false ⟨#[], #[.slice none 0 0], []⟩ 8 (by kernel_rfl) (by kernel_rfl) (by kernel_rfl) (by kernel_rfl)) ?_
  intro W base args ds gs before hval0 hW hcnd hsz0 _
  have hval : ∀ (j : Nat) t v, Try.f5.params[j]? = some t → args[j]? = some v → Value.okWide Try.prog W .any base t v := hval0
  have hsz : (DataW.weightsEach Try.prog (Try.f5.params.toList ++ Rows.graphOrderSpec.plain.varTypes Try.prog) (ds ++ gs)).all (· ≤ reachBytes) = true := hsz0
  have hW' := hW
  obtain ⟨p, q, hA0, hV, rfl, hfz, hnd⟩ := hW
  have hA : DataW.TrodAll enc Try.prog W 0 (fun _ => true) true Try.f5.params.toList args.toList ds p := hA0
  rw [Try.params5] at hA hval hsz
  obtain ⟨v0, vs0, d0, ds0, p0, q0, hargs, rfl, rfl, h0, r0⟩ := trodAll_cons hA
  obtain ⟨rfl, rfl, rfl⟩ := trodAll_nil r0
  obtain rfl : args = #[v0] := by cases args; simp_all
  obtain ⟨rfl, rfl⟩ := trodVars_none hV
  have ft0 := fits_each hsz (j := 0) rfl rfl
  obtain ⟨lA, l, lc, rfl, ok0⟩ := open_Placeds (hval 0 22 v0 rfl rfl) h0 ft0
  refine (GraphOrder_any lA l lc W ok0).mono fun e W' ⟨he, hb⟩ => ?_
  subst he
  exact ⟨_, rfl, law_post Try.laidOut hW' rfl (by decide +kernel) rfl Try.underlying4 rfl rfl rfl hb⟩

theorem graphOrder_holds : Rows.GraphOrderSaid :=
  OpenClaim.holds_of_wide 5 Try.f5 rfl rfl rfl rfl rfl rfl rfl ⟨rfl, rfl, rfl, rfl, rfl⟩ rfl rfl rfl rfl rfl (by kernel_rfl) Try.func5 (by kernel_rfl)
    (of_decide_eq_true (by kernel_rfl)) (by unfold Func.isWrapper; first | (rw [if_pos (by decide +kernel)]; kernel_rfl) | (rw [if_neg (by decide +kernel)]; exact ⟨rfl, rfl⟩))
    (fun os started H enc _ => graphOrder_lifted os started H enc)
#print axioms graphOrder_holds


end Go.Proofs.Ytgkpbndeljnjcaa
