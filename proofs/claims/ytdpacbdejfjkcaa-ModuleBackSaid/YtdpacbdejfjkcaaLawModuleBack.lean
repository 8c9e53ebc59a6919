import Derived.Test.YtdpacbdejfjkcaaModBegun
import Derived.Test.YtdpacbdejfjkcaaOpen
/- ModuleBack: what is encoded is decoded as it was, and nothing else is. No condition. -/
namespace Go.Proofs.Ytdpacbdejfjkcaa
open Go.ChangeShapes Go.WideShapes Go.ChangeAt Go.RowKit Go.WideMaps Go.WideElems
open Go.ChangeMaps (setBlock shut_map_nil open_string shut_string keptBut_setBlock frozen?_setBlock heap_setBlock_same)

set_option maxRecDepth 100000 in
set_option maxHeartbeats 8000000 in
theorem ModuleBackL_any (m : Mod) (l : List UInt8) (w : World) (hm : m.ok w) (hl : l.length ≤ big) :
    Calls Try.prog 10 #[m.v, .string (sof l)] w fun e w' => e = .returned (.bool true) ∧ Below w.heap.size w w' := by
  obtain ⟨w0, hw0⟩ : ∃ w0, w0 = w.alloc (.cells #[.string m.name, .int .i64 m.major, .int .i64 m.minor, .string m.text, .slice m.eA m.ex.length m.eC, .slice m.iA m.im.length m.iC, .slice m.pA m.pa.length m.pC] 26) := ⟨_, rfl⟩
  obtain ⟨e0, e1, e2, e3, e4, e5, e6, hz, hb⟩ := box7 hw0
  have hw0' := hw0.symm
  have hz0 : w.heap.size < w0.heap.size := by omega
  have H0 := Lib.hid hb
  have HM := Lib.hid hm
  have cE := Lib.hid (fun W (hb : Below w.heap.size w W) => Encode_any m W (hm.below hb))
  have cD2 := Lib.hid (fun W => Decode_any l W hl)
  have hdres : decErr l ≠ 0 → decRes l = zeroMod := fun h => by unfold decRes; rw [if_pos h]
  have hdraw : decErr l = 0 → decRes l = rawMod l ∧ modErr (rawMod l) = 0 ∧ encMod (rawMod l) = l := fun h => by
    have h1 : (d7 l).2 = some [] := by
      apply Classical.byContradiction
      intro hc
      unfold decErr at h
      rw [if_pos hc] at h
      omega
    refine ⟨by unfold decRes; rw [if_neg (by omega)], ?_, enc_dec h1⟩
    unfold decErr at h
    rw [if_neg (by simp [h1])] at h
    exact h
  have HDZ := Lib.hid hdres
  have HDR := Lib.hid hdraw
  obtain ⟨V, hV⟩ : ∃ V, V = decErr l := ⟨_, rfl⟩
  rw [← hV] at HDZ HDR
  simp only [← hV] at cD2
  -- the end, from a world on
  clear hdres hdraw hV hw0 hb
  by_cases t0 : modErr m = 0
  · have hE : (if modErr m ≠ 0 then (⟨#[]⟩ : ByteArray) else ⟨(encMod m).toArray⟩) = sof (encMod m) := by rw [if_neg (by omega)]
    rw [hE, t0] at cE
    have hd := dec_enc_ok t0
    have cD1 := Lib.hid (fun W => Decode_any (encMod m) W (by have := enc_len t0; unfold big; omega))
    rw [hd.1] at cD1
    have HSM := Lib.hid (fun x (hx : SameC x (decRes (encMod m))) => hx.trans hd.2)
    obtain ⟨T, hT⟩ : ∃ T, T = sof (encMod m) := ⟨_, rfl⟩
    rw [← hT] at cE cD1
    clear hE hd hT t0 hm
    go_enter Try.func10, Try.ntmps10
    go_wp2_with fail
    refine (moduleBegun_any _).mono ?_; rintro e w1 ⟨rfl, hb1⟩
    obtain ⟨hc1, hf1⟩ := bcell hb1
    have hz1 : w.heap.size < w1.heap.size := by have := hb1.size; omega
    have B1 := Lib.hid (H0.out.trans (hb1.mono (by omega)))
    clear hb1
    go_wp2_with fail
    refine (cE.out _ B1.out).mono ?_; rintro e w2 ⟨rfl, hb2⟩
    obtain ⟨hc2, hf2⟩ := bcell hb2
    have hz2 : w.heap.size < w2.heap.size := by have := hb2.size; omega
    have B2 := Lib.hid (B1.out.trans (hb2.mono (by omega)))
    clear hb2
    go_wp2_with fail
    refine (cD1.out _).mono ?_; rintro e w3 ⟨⟨x, rfl, hok, hs⟩, hb3⟩
    obtain ⟨hc3, hf3⟩ := bcell hb3
    have hz3 : w.heap.size < w3.heap.size := by have := hb3.size; omega
    have B3 := Lib.hid (B2.out.trans (hb3.mono (by omega)))
    obtain ⟨w4, hw4⟩ : ∃ w4, w4 = w3.alloc (.cells #[.string x.name, .int .i64 x.major, .int .i64 x.minor, .string x.text, .slice x.eA x.ex.length x.eC, .slice x.iA x.im.length x.iC, .slice x.pA x.pa.length x.pC] 26) := ⟨_, rfl⟩
    obtain ⟨x0, x1, x2, x3, x4, x5, x6, hz, hb4⟩ := box7 hw4
    have HW4 := Lib.hid hw4.symm
    have B4 := Lib.hid (B3.out.trans (hb4.mono (by omega)))
    have cS := Lib.hid (SameModule_any x m w4 (HSM.out x hs) (hok.below hb4) (HM.out.below B4.out))
    clear hb3 hok hs hw4 hz hb4 x0 x1 x2 x3 x4 x5 x6
    go_wp2_with fail
    rw [HW4.out]
    refine (cS.out).mono ?_; rintro e w5 ⟨rfl, hb5⟩
    have B5 := Lib.hid (B4.out.trans (hb5.mono B4.out.size))
    clear hb5 cS
    go_wp2_with fail
    refine (cD2.out _).mono ?_; rintro e w6 ⟨⟨y, rfl, hok, hs⟩, hb6⟩
    have B6 := Lib.hid (B5.out.trans (hb6.mono B5.out.size))
    have HOK := Lib.hid hok
    have HS := Lib.hid hs
    clear hb6 hok hs
    obtain ⟨w7, hw7⟩ : ∃ w7, w7 = w6.alloc (.cells #[.string y.name, .int .i64 y.major, .int .i64 y.minor, .string y.text, .slice y.eA y.ex.length y.eC, .slice y.iA y.im.length y.iC, .slice y.pA y.pa.length y.pC] 26) := ⟨_, rfl⟩
    obtain ⟨y0, y1, y2, y3, y4, y5, y6, hz7, hb7⟩ := box7 hw7
    have HW7 := Lib.hid hw7.symm
    have B7 := Lib.hid (B6.out.trans (hb7.mono B6.out.size))
    have cF := Lib.hid (Encode_any y w7 (HOK.out.below hb7))
    by_cases t1 : V = 0
    · obtain ⟨g1, g2, g3⟩ := HDR.out t1
      have hye : modErr y = 0 := by rw [HS.out.err, g1]; exact g2
      have hyn : encMod y = l := by rw [HS.out.enc, g1]; exact g3
      rw [hye, hyn, if_neg (by omega)] at cF
      subst t1
      clear y0 y1 y2 y3 y4 y5 y6 hz7 hb7 hw7 g1 g2 g3 hye hyn HS HDR HDZ
      go_wp2_with fail
      rw [HW7.out]
      refine (cF.out).mono ?_; rintro e w8 ⟨rfl, hb8⟩
      go_wp2_with fail
      go_ret
      exact ⟨by simp, B7.out.trans (hb8.mono B7.out.size)⟩
    · have t1' : (V != 0) = true := by simp [t1]
      have hz := HDZ.out t1
      have h1 : y.name = sof [] := by have := HS.out.name; rw [hz] at this; exact this
      have h2 : y.text = sof [] := by have := HS.out.text; rw [hz] at this; exact this
      rw [h1] at y0
      rw [h2] at y3
      clear y1 y2 y4 y5 y6 hz7 hb7 hw7 HS HDR HDZ t1 hz cF
      go_wp2_with fail
      go_ret
      exact ⟨by first | rfl | simp, B6.out.alloc B6.out.size _⟩
  · have t0' : (modErr m == 0) = false := by simp [t0]
    obtain ⟨E, hE⟩ : ∃ E, E = modErr m := ⟨_, rfl⟩
    obtain ⟨T, hT⟩ : ∃ T, T = (if modErr m ≠ 0 then (⟨#[]⟩ : ByteArray) else ⟨(encMod m).toArray⟩) := ⟨_, rfl⟩
    simp only [← hT] at cE
    rw [← hE] at cE t0'
    clear hE hT t0 hm
    go_enter Try.func10, Try.ntmps10
    go_wp2_with fail
    refine (moduleBegun_any _).mono ?_; rintro e w1 ⟨rfl, hb1⟩
    obtain ⟨hc1, hf1⟩ := bcell hb1
    have hz1 : w.heap.size < w1.heap.size := by have := hb1.size; omega
    have B1 := Lib.hid (H0.out.trans (hb1.mono (by omega)))
    clear hb1
    go_wp2_with fail
    refine (cE.out _ B1.out).mono ?_; rintro e w2 ⟨rfl, hb2⟩
    have B2 := Lib.hid (B1.out.trans (hb2.mono (by omega)))
    clear hb2
    go_wp2_with fail
    refine (cD2.out _).mono ?_; rintro e w6 ⟨⟨y, rfl, hok, hs⟩, hb6⟩
    have B6 := Lib.hid (B2.out.trans (hb6.mono B2.out.size))
    have HOK := Lib.hid hok
    have HS := Lib.hid hs
    clear hb6 hok hs
    obtain ⟨w7, hw7⟩ : ∃ w7, w7 = w6.alloc (.cells #[.string y.name, .int .i64 y.major, .int .i64 y.minor, .string y.text, .slice y.eA y.ex.length y.eC, .slice y.iA y.im.length y.iC, .slice y.pA y.pa.length y.pC] 26) := ⟨_, rfl⟩
    obtain ⟨y0, y1, y2, y3, y4, y5, y6, hz7, hb7⟩ := box7 hw7
    have HW7 := Lib.hid hw7.symm
    have B7 := Lib.hid (B6.out.trans (hb7.mono B6.out.size))
    have cF := Lib.hid (Encode_any y w7 (HOK.out.below hb7))
    by_cases t1 : V = 0
    · obtain ⟨g1, g2, g3⟩ := HDR.out t1
      have hye : modErr y = 0 := by rw [HS.out.err, g1]; exact g2
      have hyn : encMod y = l := by rw [HS.out.enc, g1]; exact g3
      rw [hye, hyn, if_neg (by omega)] at cF
      subst t1
      clear y0 y1 y2 y3 y4 y5 y6 hz7 hb7 hw7 g1 g2 g3 hye hyn HS HDR HDZ
      go_wp2_with fail
      rw [HW7.out]
      refine (cF.out).mono ?_; rintro e w8 ⟨rfl, hb8⟩
      go_wp2_with fail
      go_ret
      exact ⟨by simp, B7.out.trans (hb8.mono B7.out.size)⟩
    · have t1' : (V != 0) = true := by simp [t1]
      have hz := HDZ.out t1
      have h1 : y.name = sof [] := by have := HS.out.name; rw [hz] at this; exact this
      have h2 : y.text = sof [] := by have := HS.out.text; rw [hz] at this; exact this
      rw [h1] at y0
      rw [h2] at y3
      clear y1 y2 y4 y5 y6 hz7 hb7 hw7 HS HDR HDZ t1 hz cF
      go_wp2_with fail
      go_ret
      exact ⟨by first | rfl | simp, B6.out.alloc B6.out.size _⟩

theorem ModuleBack_any (m : Mod) (s : ByteArray) (w : World) (hm : m.ok w) (hs : s.size ≤ 140737488351232) :
    Calls Try.prog 10 #[m.v, .string s] w fun e w' => e = .returned (.bool true) ∧ Below w.heap.size w w' := by
  have := ModuleBackL_any m s.data.toList w hm (by rw [data_len]; unfold big; omega)
  rwa [sof_toList] at this

set_option maxRecDepth 100000 in
theorem moduleBack_lifted (os : Os) (started : os.Started) (H : Type) (enc : TypeId × Value → H) :
    ReturnsInHanded {} Try.checked os 10 .any (Rows.moduleBackSpec.pre6 enc Try.prog Try.f10 Rows.moduleBackRow.domain false) (Rows.moduleBackSpec.post enc Try.prog Try.f10 false true false false) := by
  refine returnsInHanded_of_change_sized (C := Try.checked) Try.own started (by kernel_rfl) Try.func10
    (ChangeSpec.witness6 (enc := enc) (C := Try.checked) false ⟨#[], #[.agg #[.string ⟨#[]⟩, .int .i64 0, .int .i64 0, .string ⟨#[]⟩, .slice none 0 0, .slice none 0 0, .slice none 0 0], .string ⟨#[]⟩], []⟩ 8 (by kernel_rfl) (by kernel_rfl) (by kernel_rfl) (by kernel_rfl)) ?_
  intro W base args ds gs before hval0 hW hcnd hsz0 _
  have hval : ∀ (j : Nat) t v, Try.f10.params[j]? = some t → args[j]? = some v → Value.okWide Try.prog W .any base t v := hval0
  have hsz : (DataW.weightsEach Try.prog (Try.f10.params.toList ++ Rows.moduleBackSpec.plain.varTypes Try.prog) (ds ++ gs)).all (· ≤ reachBytes) = true := hsz0
  have hW' := hW
  obtain ⟨p, q, hA0, hV, rfl, hfz, hnd⟩ := hW
  have hA : DataW.TrodAll enc Try.prog W 0 (fun _ => true) true Try.f10.params.toList args.toList ds p := hA0
  rw [Try.params10] at hA hval hsz
  obtain ⟨v0, vs0, d0, ds0, p0, q0, hargs, rfl, rfl, h0, r0⟩ := trodAll_cons hA
  obtain ⟨v1, vs1, d1, ds1, p1, q1, rfl, rfl, rfl, h1, r1⟩ := trodAll_cons r0
  obtain ⟨rfl, rfl, rfl⟩ := trodAll_nil r1
  obtain rfl : args = #[v0, v1] := by cases args; simp_all
  obtain ⟨rfl, rfl⟩ := trodVars_none hV
  have ft0 := fits_each hsz (j := 0) rfl rfl
  obtain ⟨m, rfl, ok0⟩ := open_Module (hval 0 26 v0 rfl rfl) h0 ft0
  obtain ⟨s, rfl, rfl, rfl, w1⟩ := open_string Try.underlying9 (hval 1 9 v1 rfl rfl) h1
  have z1 : s.size ≤ 140737488351232 := by have := sized_string hsz (j := 1) (t := 9) rfl rfl; simpa [reachBytes] using this
  refine (ModuleBack_any m s W ok0 z1).mono fun e W' ⟨he, hb⟩ => ?_
  subst he
  exact ⟨_, rfl, law_post Try.laidOut hW' rfl (by decide +kernel) rfl Try.underlying4 rfl rfl rfl hb⟩

theorem moduleBack_holds : Rows.ModuleBackSaid :=
  OpenClaim.holds_of_wide 10 Try.f10 rfl rfl rfl rfl rfl rfl rfl ⟨rfl, rfl, rfl, rfl, rfl⟩ rfl rfl rfl rfl rfl (by kernel_rfl) Try.func10 (by kernel_rfl)
    (of_decide_eq_true (by kernel_rfl)) (by unfold Func.isWrapper; first | (rw [if_pos (by decide +kernel)]; kernel_rfl) | (rw [if_neg (by decide +kernel)]; exact ⟨rfl, rfl⟩))
    (fun os started H enc _ => moduleBack_lifted os started H enc)
#print axioms moduleBack_holds

end Go.Proofs.Ytdpacbdejfjkcaa
