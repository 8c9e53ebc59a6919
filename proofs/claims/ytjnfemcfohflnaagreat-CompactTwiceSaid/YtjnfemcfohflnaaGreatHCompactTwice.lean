import Derived.Test.YtjnfemcfohflnaaGreatKThere
import Derived.Test.YtjnfemcfohflnaaGreatG08
/- CompactTwice: what is packed is packed: packed again it is the same, and no step is left. No condition. -/
namespace Go.Proofs.YtjnfemcfohflnaaGreat
open Go.ChangeShapes Go.WideShapes Go.ChangeAt Go.RowKit Go.WideMaps Go.WideElems
open Go.ChangeMaps (setBlock shut_map_nil open_string shut_string keptBut_setBlock frozen?_setBlock heap_setBlock_same)

set_option maxRecDepth 100000 in
set_option maxHeartbeats 8000000 in
theorem CompactTwice_any (k : Krn) (A : Option Addr) (l : List Plc) (c : Nat) (w : World) (hk : k.ok w) (h : PlsOk w A l) :
    Calls Tryz.prog 4 #[.agg #[.int .i64 k.major, .int .i64 k.minor, .slice k.eA k.ex.length k.eC, .slice A l.length c]] w fun e w' => e = .returned (.bool true) ∧ Below w.heap.size w w' := by
  obtain ⟨w0, hw0⟩ : ∃ w0, w0 = w.alloc (.cells #[.int .i64 k.major, .int .i64 k.minor, .slice k.eA k.ex.length k.eC, .slice A l.length c] 27) := ⟨_, rfl⟩
  obtain ⟨g0, g1, g2, g3, hz, hb0⟩ := box4 hw0
  have H0 := Lib.hid hb0
  have hw0' := hw0.symm
  have c1 := Lib.hid (fun W (hb : Below w.heap.size w W) => CPack_any k A c l W (hk.below hb) (h.below hb))
  obtain ⟨E, hE⟩ : ∃ E, E = rgErr k l := ⟨_, rfl⟩
  have HE := Lib.hid hE
  rw [← hE] at c1
  have hmP := Lib.hid (pack_mods (l := l) (a := 0))
  have HU := Lib.hid (there_of (E := E) hk h)
  clear hw0 hb0 hz h hk hE
  go_enter Tryz.func4, Tryz.ntmps4
  go_wp2_with fail
  refine (c1.out _ H0.out).mono ?_; rintro e w1 ⟨⟨n, k1, A1, l1, n1, rfl, hn, hrg⟩, hb1⟩
  have h1 := HU.out _ _ _ _ _ _ _ hmP.out hrg
  have HN := Lib.hid hn
  obtain ⟨w2, hw2⟩ : ∃ w2, w2 = w1.alloc (.cells #[.int .i64 k1.major, .int .i64 k1.minor, .slice k1.eA k1.ex.length k1.eC, .slice A1 l1.length n1] 27) := ⟨_, rfl⟩
  have hb2 : Below w1.heap.size w1 w2 := hw2 ▸ (Below.refl _ _).alloc (Nat.le_refl _) _
  have HA2 := Lib.hid (show w2.heap[w1.heap.size]? = some (.cells #[.int .i64 k1.major, .int .i64 k1.minor, .slice k1.eA k1.ex.length k1.eC, .slice A1 l1.length n1] 27 (0, 0)) by rw [hw2]; exact heap_alloc_new w1 _)
  have HB2 := Lib.hid ((H0.out.trans (hb1.mono H0.out.size)).trans (hb2.mono (Nat.le_trans H0.out.size hb1.size)))
  have HT2 := Lib.hid (h1.1.below hb2)
  have HS1 := Lib.hid h1.2
  have hw2' := hw2.symm
  clear hrg hb1 hw2 hb2 h1 hn g0 g1 g2 g3
  go_wp2_with fail
  refine (compactBegun_any _).mono ?_; rintro e w3 ⟨rfl, hb3⟩
  have HA3 := Lib.hid (blk' hb3 HA2.out)
  have HT3 := Lib.hid (HT2.out.below hb3)
  have HB3 := Lib.hid (HB2.out.trans (hb3.mono HB2.out.size))
  clear hb3
  by_cases t : E = 0
  · obtain ⟨q1, q2⟩ := HS1.out.1 t
    obtain ⟨p1, p2, p3⟩ := packed_facts (HE.out.symm.trans t) q1 q2
    have c2 := Lib.hid (CPack_any k1 A1 n1 l1 w3 HT3.out.1 HT3.out.2)
    rw [p1, p3] at c2
    have P := Lib.hid (And.intro p1 (And.intro p2 p3))
    obtain ⟨_, a0, a1, a2, a3, _⟩ := rgcells HA3.out
    subst t
    clear q1 q2 p1 p2 p3
    go_wp2_with fail
    refine (c2.out).mono ?_; rintro e w4 ⟨⟨n4, k4, A4, l4, m4, rfl, hn4, hrg⟩, hb4⟩
    have h4 := RgIs.okAll hrg HT3.out.1 HT3.out.2 rfl
    have HQ4 := Lib.hid (show k4.bare = k1.bare ∧ bares l4 = bares l1 from ⟨hrg.kern, hrg.mods⟩)
    have hn0 : n4 = 0 := by simpa using hn4
    subst hn0
    obtain ⟨w5, hw5⟩ : ∃ w5, w5 = w4.alloc (.cells #[.int .i64 k4.major, .int .i64 k4.minor, .slice k4.eA k4.ex.length k4.eC, .slice A4 l4.length m4] 27) := ⟨_, rfl⟩
    have hb5 : Below w4.heap.size w4 w5 := hw5 ▸ (Below.refl _ _).alloc (Nat.le_refl _) _
    have HC5 := Lib.hid (show w5.heap[w4.heap.size]? = some (.cells #[.int .i64 k4.major, .int .i64 k4.minor, .slice k4.eA k4.ex.length k4.eC, .slice A4 l4.length m4] 27 (0, 0)) by rw [hw5]; exact heap_alloc_new w4 _)
    have HA5 := Lib.hid (blk' hb5 (blk' hb4 HA3.out))
    have HT5 := Lib.hid ((HT3.out.below hb4).below hb5)
    have HV5 := Lib.hid (show RgThere w5 k4 A4 l4 from RgThere.below h4 hb5)
    have HB5 := Lib.hid ((HB3.out.trans (hb4.mono HB3.out.size)).trans (hb5.mono (Nat.le_trans HB3.out.size hb4.size)))
    have c3 := Lib.hid (CStep_any k1 A1 n1 l1 w5 HT5.out.1 HT5.out.2)
    rw [P.out.1, P.out.2.1] at c3
    obtain ⟨_, b0, b1, b2, b3, _⟩ := rgcells HA5.out
    have hw5' := hw5.symm
    clear hrg h4 hn4 hb4 hw5 hb5 a0 a1 a2 a3 c2
    go_wp2_with fail
    refine (c3.out).mono ?_; rintro e w6 ⟨⟨k6, A6, l6, m6, rfl, hrg⟩, hb6⟩
    have h6 := RgIs.okAll hrg HT5.out.1 HT5.out.2 rfl
    have HQ6 := Lib.hid (show k6.bare = k1.bare ∧ bares l6 = bares l1 from ⟨hrg.kern, hrg.mods⟩)
    obtain ⟨w7, hw7⟩ : ∃ w7, w7 = w6.alloc (.cells #[.int .i64 k6.major, .int .i64 k6.minor, .slice k6.eA k6.ex.length k6.eC, .slice A6 l6.length m6] 27) := ⟨_, rfl⟩
    have hb7 : Below w6.heap.size w6 w7 := hw7 ▸ (Below.refl _ _).alloc (Nat.le_refl _) _
    have HD7 := Lib.hid (show w7.heap[w6.heap.size]? = some (.cells #[.int .i64 k6.major, .int .i64 k6.minor, .slice k6.eA k6.ex.length k6.eC, .slice A6 l6.length m6] 27 (0, 0)) by rw [hw7]; exact heap_alloc_new w6 _)
    have HT7 := Lib.hid ((HT5.out.below hb6).below hb7)
    have HV7 := Lib.hid ((HV5.out.below hb6).below hb7)
    have HW7 := Lib.hid (show RgThere w7 k6 A6 l6 from RgThere.below h6 hb7)
    have HB7 := Lib.hid ((HB5.out.trans (hb6.mono HB5.out.size)).trans (hb7.mono (Nat.le_trans HB5.out.size hb6.size)))
    have HA7 := Lib.hid (blk' hb7 (blk' hb6 HA5.out))
    obtain ⟨_, d0, d1, d2, d3, _⟩ := rgcells HA7.out
    obtain ⟨_, e0, e1, e2, e3, _⟩ := rgcells (blk' hb7 (blk' hb6 HC5.out))
    have c4 := Lib.hid (SameRegistry_any k1 k4 A1 A4 n1 m4 l1 l4 w7 HT7.out.1 HT7.out.2 HV7.out.1 HV7.out.2 HQ4.out.1.symm HQ4.out.2.symm)
    have hw7' := hw7.symm
    clear hrg h6 hb6 hw7 hb7 b0 b1 b2 b3 c3
    go_wp2_with fail
    refine (c4.out).mono ?_; rintro e w8 ⟨rfl, hb8⟩
    obtain ⟨_, f0, f1, f2, f3, _⟩ := rgcells (blk' hb8 HA7.out)
    obtain ⟨_, i0, i1, i2, i3, _⟩ := rgcells (blk' hb8 HD7.out)
    have c5 := Lib.hid (SameRegistry_any k1 k6 A1 A6 n1 m6 l1 l6 w8 (HT7.out.below hb8).1 (HT7.out.below hb8).2 (HW7.out.below hb8).1 (HW7.out.below hb8).2 HQ6.out.1.symm HQ6.out.2.symm)
    have HB8 := Lib.hid (HB7.out.trans (hb8.mono HB7.out.size))
    clear hb8 d0 d1 d2 d3 e0 e1 e2 e3 c4
    go_wp2_with fail
    refine (c5.out).mono ?_; rintro e w9 ⟨rfl, hb9⟩
    have HB9 := Lib.hid (HB8.out.trans (hb9.mono HB8.out.size))
    clear hb9
    go_wp2_with fail
    go_ret
    exact ⟨by simp, HB9.out⟩
  · have t' : (E != 0) = true := by simp [t]
    have hn0 : n = 0 := by have := HN.out; rwa [if_pos t] at this
    subst hn0
    clear t
    go_wp2_with fail
    go_ret
    exact ⟨by simp, HB3.out⟩

set_option maxRecDepth 100000 in
theorem compactTwice_lifted (os : Os) (started : os.Started) (H : Type) (enc : TypeId × Value → H) :
    ReturnsInHanded {} Tryz.checked os 4 .any (Rows.compactTwiceSpec.pre6 enc Tryz.prog Tryz.f4 Rows.compactTwiceRow.domain false) (Rows.compactTwiceSpec.post enc Tryz.prog Tryz.f4 false true false false) := by
  refine returnsInHanded_of_change_sized (C := Tryz.checked) Tryz.own started (by kernel_rfl) Tryz.func4
    (ChangeSpec.witness6 (enc := enc) (C := Tryz.checked) false ⟨#[], #[.agg #[.int .i64 0, .int .i64 0, .slice none 0 0, .slice none 0 0]], []⟩ 8 (by kernel_rfl) (by kernel_rfl) (by kernel_rfl) (by kernel_rfl)) ?_
  intro W base args ds gs before hval0 hW hcnd hsz0 _
  have hval : ∀ (j : Nat) t v, Tryz.f4.params[j]? = some t → args[j]? = some v → Value.okWide Tryz.prog W .any base t v := hval0
  have hsz : (DataW.weightsEach Tryz.prog (Tryz.f4.params.toList ++ Rows.compactTwiceSpec.plain.varTypes Tryz.prog) (ds ++ gs)).all (· ≤ reachBytes) = true := hsz0
  have hW' := hW
  obtain ⟨p, q, hA0, hV, rfl, hfz, hnd⟩ := hW
  have hA : DataW.TrodAll enc Tryz.prog W 0 (fun _ => true) true Tryz.f4.params.toList args.toList ds p := hA0
  rw [Tryz.params4] at hA hval hsz
  obtain ⟨v0, vs0, d0, ds0, p0, q0, hargs, rfl, rfl, h0, r0⟩ := trodAll_cons hA
  obtain ⟨rfl, rfl, rfl⟩ := trodAll_nil r0
  obtain rfl : args = #[v0] := by cases args; simp_all
  obtain ⟨rfl, rfl⟩ := trodVars_none hV
  have ft0 := fits_each hsz (j := 0) rfl rfl
  obtain ⟨rK, rA, rL, rC, rfl, okk0, okl0⟩ := open_Registry (hval 0 27 v0 rfl rfl) h0 ft0
  refine (CompactTwice_any rK rA rL rC W okk0 okl0).mono fun e W' ⟨he, hb⟩ => ?_
  subst he
  exact ⟨_, rfl, law_post Tryz.laidOut hW' rfl (by decide +kernel) rfl Tryz.underlying4 rfl rfl rfl hb⟩

theorem compactTwice_holds : Rows.CompactTwiceSaid :=
  OpenClaim.holds_of_wide 4 Tryz.f4 rfl rfl rfl rfl rfl rfl rfl ⟨rfl, rfl, rfl, rfl, rfl⟩ rfl rfl rfl rfl rfl (by kernel_rfl) Tryz.func4 (by kernel_rfl)
    (of_decide_eq_true (by kernel_rfl)) (by unfold Func.isWrapper; first | (rw [if_pos (by decide +kernel)]; kernel_rfl) | (rw [if_neg (by decide +kernel)]; exact ⟨rfl, rfl⟩))
    (fun os started H enc _ => compactTwice_lifted os started H enc)
#print axioms compactTwice_holds


end Go.Proofs.YtjnfemcfohflnaaGreat
