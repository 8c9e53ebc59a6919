import Derived.Test.YtdpacbdejfjkcaaModBegun
import Derived.Test.YtdpacbdejfjkcaaDecodeOfW
import Derived.Test.YtdpacbdejfjkcaaEncOfW
import Derived.Test.YtdpacbdejfjkcaaOpen
/- ModuleTells: Check, Encode and Decode answer just what the document says, errors too, whatever they are handed. No condition. -/
namespace Go.Proofs.Ytdpacbdejfjkcaa
open Go.ChangeShapes Go.WideShapes Go.ChangeAt Go.RowKit Go.WideMaps Go.WideElems
open Go.ChangeMaps (setBlock shut_map_nil open_string shut_string keptBut_setBlock frozen?_setBlock heap_setBlock_same)

set_option maxRecDepth 100000 in
set_option maxHeartbeats 8000000 in
theorem ModuleTellsL_any (m : Mod) (l : List UInt8) (w : World) (hm : m.ok w) (hl : l.length ≤ big) :
    Calls Try.prog 9 #[m.v, .string (sof l)] w fun e w' => e = .returned (.bool true) ∧ Below w.heap.size w w' := by
  obtain ⟨w0, hw0⟩ : ∃ w0, w0 = w.alloc (.cells #[.string m.name, .int .i64 m.major, .int .i64 m.minor, .string m.text, .slice m.eA m.ex.length m.eC, .slice m.iA m.im.length m.iC, .slice m.pA m.pa.length m.pC] 26) := ⟨_, rfl⟩
  obtain ⟨e0, e1, e2, e3, e4, e5, e6, hz, hb⟩ := box7 hw0
  have hw0' := hw0.symm
  have hz0 : w.heap.size < w0.heap.size := by omega
  have H0 := Lib.hid hb
  have HM := Lib.hid hm
  have cE := Lib.hid (fun W (hb : Below w.heap.size w W) => Encode_any m W (hm.below hb))
  have cK := Lib.hid (fun W (hb : Below w.heap.size w W) => CheckModule_any m W (hm.below hb))
  have cC := Lib.hid (fun W (hb : Below w.heap.size w W) => Check_any m W (hm.below hb))
  have cO := Lib.hid (fun W (hb : Below w.heap.size w W) he => EncodeOf_any m W (hm.below hb) he)
  have cD := Lib.hid (fun W => Decode_any l W hl)
  have cD2 := Lib.hid (fun W => DecodeOf_any l W hl)
  obtain ⟨V, hV⟩ : ∃ V, V = decErr l := ⟨_, rfl⟩
  simp only [← hV] at cD cD2
  clear hV hw0 hb hz
  by_cases t0 : modErr m = 0
  · have hT : (if modErr m ≠ 0 then (⟨#[]⟩ : ByteArray) else ⟨(encMod m).toArray⟩) = sof (encMod m) := by rw [if_neg (by omega)]
    have cO' := Lib.hid (fun W hb => cO.out W hb t0)
    change Hid (∀ W, _ → Calls _ _ _ W fun e w' => e = .returned (.string (sof (encMod m))) ∧ _) at cO'
    obtain ⟨T, hTT⟩ : ∃ T, T = sof (encMod m) := ⟨_, rfl⟩
    simp only [t0, ← hTT] at cE
    simp only [t0] at cK cC
    rw [← hTT] at cO'
    clear cO t0 hT hTT hm
    go_enter Try.func9, Try.ntmps9
    go_wp2_with fail
    refine (cE.out _ H0.out).mono ?_; rintro e w1 ⟨rfl, hb1⟩
    obtain ⟨hc1, hf1⟩ := bcell hb1
    have hz1 : w.heap.size < w1.heap.size := by have := hb1.size; omega
    have B1 := Lib.hid (H0.out.trans (hb1.mono (by omega)))
    clear hb1
    go_wp2_with fail
    refine (cD.out _).mono ?_; rintro e w2 ⟨⟨x, rfl, hok, hs⟩, hb2⟩
    obtain ⟨hc2, hf2⟩ := bcell hb2
    have hz2 : w.heap.size < w2.heap.size := by have := hb2.size; omega
    have B2 := Lib.hid (B1.out.trans (hb2.mono (by omega)))
    obtain ⟨wx, hwx⟩ : ∃ wx, wx = w2.alloc (.cells #[.string x.name, .int .i64 x.major, .int .i64 x.minor, .string x.text, .slice x.eA x.ex.length x.eC, .slice x.iA x.im.length x.iC, .slice x.pA x.pa.length x.pC] 26) := ⟨_, rfl⟩
    obtain ⟨x0, x1, x2, x3, x4, x5, x6, hzx, hbx⟩ := box7 hwx
    have HWX := Lib.hid hwx.symm
    have BX := Lib.hid (B2.out.trans (hbx.mono (by omega)))
    have HOKX := Lib.hid (hok.below hbx)
    have HSX := Lib.hid hs
    obtain ⟨hcx, hfx⟩ := bcell hbx
    have hzx1 : w2.heap.size < wx.heap.size := by omega
    have hzx2 : w.heap.size < wx.heap.size := by omega
    clear hb2 hok hs hwx hzx hbx
    go_wp2_with fail
    rw [HWX.out]
    refine (cK.out _ BX.out).mono ?_; rintro e w3 ⟨rfl, hb3⟩
    obtain ⟨hc3, hf3⟩ := bcell hb3
    have hz3 : w.heap.size < w3.heap.size := by have := hb3.size; omega
    have hy3 : w2.heap.size < w3.heap.size := by have := hb3.size; omega
    have B3 := Lib.hid (BX.out.trans (hb3.mono (by omega)))
    have D3 := Lib.hid hb3
    clear hb3
    go_wp2_with fail
    refine (cO'.out _ B3.out).mono ?_; rintro e w4 ⟨rfl, hb4⟩
    obtain ⟨hc4, hf4⟩ := bcell hb4
    have hz4 : w.heap.size < w4.heap.size := by have := hb4.size; omega
    have hy4 : w2.heap.size < w4.heap.size := by have := hb4.size; omega
    have B4 := Lib.hid (B3.out.trans (hb4.mono (by omega)))
    have D4 := Lib.hid (D3.out.trans (hb4.mono D3.out.size))
    clear hb4
    go_wp2_with fail
    refine (cD2.out _).mono ?_; rintro e w5 ⟨⟨y, rfl, hok, hs⟩, hb5⟩
    obtain ⟨hc5, hf5⟩ := bcell hb5
    have hz5 : w.heap.size < w5.heap.size := by have := hb5.size; omega
    have hy5 : w2.heap.size < w5.heap.size := by have := hb5.size; omega
    have B5 := Lib.hid (B4.out.trans (hb5.mono B4.out.size))
    have D5 := Lib.hid (D4.out.trans (hb5.mono D4.out.size))
    obtain ⟨wy, hwy⟩ : ∃ wy, wy = w5.alloc (.cells #[.string y.name, .int .i64 y.major, .int .i64 y.minor, .string y.text, .slice y.eA y.ex.length y.eC, .slice y.iA y.im.length y.iC, .slice y.pA y.pa.length y.pC] 26) := ⟨_, rfl⟩
    obtain ⟨y0, y1, y2, y3, y4, y5, y6, hzy, hby⟩ := box7 hwy
    have HWY := Lib.hid hwy.symm
    have BY := Lib.hid (B5.out.trans (hby.mono B5.out.size))
    have DY := Lib.hid (D5.out.trans (hby.mono D5.out.size))
    have HOKY := Lib.hid (hok.below hby)
    have HSY := Lib.hid hs
    obtain ⟨hcy, hfy⟩ := bcell hby
    have hzy1 : w5.heap.size < wy.heap.size := by omega
    have hzy2 : w.heap.size < wy.heap.size := by omega
    have hzy3 : w2.heap.size < wy.heap.size := by omega
    clear hb5 hok hs hwy hzy hby
    go_wp2_with fail
    rw [HWY.out]
    refine (moduleBegun_any _).mono ?_; rintro e w6 ⟨rfl, hb6⟩
    obtain ⟨hc6, hf6⟩ := bcell hb6
    have hz6 : w.heap.size < w6.heap.size := by have := hb6.size; omega
    have hy6 : w2.heap.size < w6.heap.size := by have := hb6.size; omega
    have hx6 : w5.heap.size < w6.heap.size := by have := hb6.size; omega
    have B6 := Lib.hid (BY.out.trans (hb6.mono BY.out.size))
    have D6 := Lib.hid (DY.out.trans (hb6.mono DY.out.size))
    have E6 := Lib.hid hb6
    clear hb6
    go_wp2_with fail
    refine (cC.out _ B6.out).mono ?_; rintro e w7 ⟨rfl, hb7⟩
    obtain ⟨hc7, hf7⟩ := bcell hb7
    have B7 := Lib.hid (B6.out.trans (hb7.mono B6.out.size))
    have cS := Lib.hid (SameModule_any x y w7 ⟨HSX.out.name.trans HSY.out.name.symm, HSX.out.major.trans HSY.out.major.symm, HSX.out.minor.trans HSY.out.minor.symm, HSX.out.text.trans HSY.out.text.symm, HSX.out.ex.trans HSY.out.ex.symm, HSX.out.im.trans HSY.out.im.symm, HSX.out.pa.trans HSY.out.pa.symm⟩ (HOKX.out.below (D6.out.trans (hb7.mono D6.out.size))) (HOKY.out.below (E6.out.trans (hb7.mono E6.out.size))))
    clear hb7
    go_wp2_with fail
    refine (cS.out).mono ?_; rintro e w8 ⟨rfl, hb8⟩
    go_wp2_with fail
    go_ret
    exact ⟨by simp, B7.out.trans (hb8.mono B7.out.size)⟩
  · obtain ⟨E, hE⟩ : ∃ E, E = modErr m := ⟨_, rfl⟩
    simp only [← hE] at cE cK cC
    rw [← hE] at t0
    simp only [if_pos t0] at cE
    have t0' : (E == 0) = false := by simp [t0]
    clear cO t0 hE hm
    go_enter Try.func9, Try.ntmps9
    go_wp2_with fail
    refine (cE.out _ H0.out).mono ?_; rintro e w1 ⟨rfl, hb1⟩
    obtain ⟨hc1, hf1⟩ := bcell hb1
    have hz1 : w.heap.size < w1.heap.size := by have := hb1.size; omega
    have B1 := Lib.hid (H0.out.trans (hb1.mono (by omega)))
    clear hb1
    go_wp2_with fail
    refine (cD.out _).mono ?_; rintro e w2 ⟨⟨x, rfl, hok, hs⟩, hb2⟩
    obtain ⟨hc2, hf2⟩ := bcell hb2
    have hz2 : w.heap.size < w2.heap.size := by have := hb2.size; omega
    have B2 := Lib.hid (B1.out.trans (hb2.mono (by omega)))
    obtain ⟨wx, hwx⟩ : ∃ wx, wx = w2.alloc (.cells #[.string x.name, .int .i64 x.major, .int .i64 x.minor, .string x.text, .slice x.eA x.ex.length x.eC, .slice x.iA x.im.length x.iC, .slice x.pA x.pa.length x.pC] 26) := ⟨_, rfl⟩
    obtain ⟨x0, x1, x2, x3, x4, x5, x6, hzx, hbx⟩ := box7 hwx
    have HWX := Lib.hid hwx.symm
    have BX := Lib.hid (B2.out.trans (hbx.mono (by omega)))
    have HOKX := Lib.hid (hok.below hbx)
    have HSX := Lib.hid hs
    obtain ⟨hcx, hfx⟩ := bcell hbx
    have hzx1 : w2.heap.size < wx.heap.size := by omega
    have hzx2 : w.heap.size < wx.heap.size := by omega
    clear hb2 hok hs hwx hzx hbx
    go_wp2_with fail
    rw [HWX.out]
    refine (cK.out _ BX.out).mono ?_; rintro e w3 ⟨rfl, hb3⟩
    obtain ⟨hc3, hf3⟩ := bcell hb3
    have hz3 : w.heap.size < w3.heap.size := by have := hb3.size; omega
    have hy3 : w2.heap.size < w3.heap.size := by have := hb3.size; omega
    have B3 := Lib.hid (BX.out.trans (hb3.mono (by omega)))
    have D3 := Lib.hid hb3
    clear hb3
    go_wp2_with fail
    refine (cD2.out _).mono ?_; rintro e w5 ⟨⟨y, rfl, hok, hs⟩, hb5⟩
    obtain ⟨hc5, hf5⟩ := bcell hb5
    have hz5 : w.heap.size < w5.heap.size := by have := hb5.size; omega
    have hy5 : w2.heap.size < w5.heap.size := by have := hb5.size; omega
    have B5 := Lib.hid (B3.out.trans (hb5.mono B3.out.size))
    have D5 := Lib.hid (D3.out.trans (hb5.mono D3.out.size))
    obtain ⟨wy, hwy⟩ : ∃ wy, wy = w5.alloc (.cells #[.string y.name, .int .i64 y.major, .int .i64 y.minor, .string y.text, .slice y.eA y.ex.length y.eC, .slice y.iA y.im.length y.iC, .slice y.pA y.pa.length y.pC] 26) := ⟨_, rfl⟩
    obtain ⟨y0, y1, y2, y3, y4, y5, y6, hzy, hby⟩ := box7 hwy
    have HWY := Lib.hid hwy.symm
    have BY := Lib.hid (B5.out.trans (hby.mono B5.out.size))
    have DY := Lib.hid (D5.out.trans (hby.mono D5.out.size))
    have HOKY := Lib.hid (hok.below hby)
    have HSY := Lib.hid hs
    obtain ⟨hcy, hfy⟩ := bcell hby
    have hzy1 : w5.heap.size < wy.heap.size := by omega
    have hzy2 : w.heap.size < wy.heap.size := by omega
    have hzy3 : w2.heap.size < wy.heap.size := by omega
    clear hb5 hok hs hwy hzy hby
    go_wp2_with fail
    rw [HWY.out]
    refine (moduleBegun_any _).mono ?_; rintro e w6 ⟨rfl, hb6⟩
    obtain ⟨hc6, hf6⟩ := bcell hb6
    have hz6 : w.heap.size < w6.heap.size := by have := hb6.size; omega
    have hy6 : w2.heap.size < w6.heap.size := by have := hb6.size; omega
    have hx6 : w5.heap.size < w6.heap.size := by have := hb6.size; omega
    have B6 := Lib.hid (BY.out.trans (hb6.mono BY.out.size))
    have D6 := Lib.hid (DY.out.trans (hb6.mono DY.out.size))
    have E6 := Lib.hid hb6
    clear hb6
    go_wp2_with fail
    refine (cC.out _ B6.out).mono ?_; rintro e w7 ⟨rfl, hb7⟩
    obtain ⟨hc7, hf7⟩ := bcell hb7
    have B7 := Lib.hid (B6.out.trans (hb7.mono B6.out.size))
    have cS := Lib.hid (SameModule_any x y w7 ⟨HSX.out.name.trans HSY.out.name.symm, HSX.out.major.trans HSY.out.major.symm, HSX.out.minor.trans HSY.out.minor.symm, HSX.out.text.trans HSY.out.text.symm, HSX.out.ex.trans HSY.out.ex.symm, HSX.out.im.trans HSY.out.im.symm, HSX.out.pa.trans HSY.out.pa.symm⟩ (HOKX.out.below (D6.out.trans (hb7.mono D6.out.size))) (HOKY.out.below (E6.out.trans (hb7.mono E6.out.size))))
    clear hb7
    go_wp2_with fail
    refine (cS.out).mono ?_; rintro e w8 ⟨rfl, hb8⟩
    go_wp2_with fail
    go_ret
    exact ⟨by simp, B7.out.trans (hb8.mono B7.out.size)⟩

theorem ModuleTells_any (m : Mod) (s : ByteArray) (w : World) (hm : m.ok w) (hs : s.size ≤ 140737488351232) :
    Calls Try.prog 9 #[m.v, .string s] w fun e w' => e = .returned (.bool true) ∧ Below w.heap.size w w' := by
  have := ModuleTellsL_any m s.data.toList w hm (by rw [data_len]; unfold big; omega)
  rwa [sof_toList] at this

set_option maxRecDepth 100000 in
theorem moduleTells_lifted (os : Os) (started : os.Started) (H : Type) (enc : TypeId × Value → H) :
    ReturnsInHanded {} Try.checked os 9 .any (Rows.moduleTellsSpec.pre6 enc Try.prog Try.f9 Rows.moduleTellsRow.domain false) (Rows.moduleTellsSpec.post enc Try.prog Try.f9 false true false false) := by
  refine returnsInHanded_of_change_sized (C := Try.checked) Try.own started (by kernel_rfl) Try.func9
    (ChangeSpec.witness6 (enc := enc) (C := Try.checked) false ⟨#[], #[.agg #[.string ⟨#[]⟩, .int .i64 0, .int .i64 0, .string ⟨#[]⟩, .slice none 0 0, .slice none 0 0, .slice none 0 0], .string ⟨#[]⟩], []⟩ 8 (by kernel_rfl) (by kernel_rfl) (by kernel_rfl) (by kernel_rfl)) ?_
  intro W base args ds gs before hval0 hW hcnd hsz0 _
  have hval : ∀ (j : Nat) t v, Try.f9.params[j]? = some t → args[j]? = some v → Value.okWide Try.prog W .any base t v := hval0
  have hsz : (DataW.weightsEach Try.prog (Try.f9.params.toList ++ Rows.moduleTellsSpec.plain.varTypes Try.prog) (ds ++ gs)).all (· ≤ reachBytes) = true := hsz0
  have hW' := hW
  obtain ⟨p, q, hA0, hV, rfl, hfz, hnd⟩ := hW
  have hA : DataW.TrodAll enc Try.prog W 0 (fun _ => true) true Try.f9.params.toList args.toList ds p := hA0
  rw [Try.params9] at hA hval hsz
  obtain ⟨v0, vs0, d0, ds0, p0, q0, hargs, rfl, rfl, h0, r0⟩ := trodAll_cons hA
  obtain ⟨v1, vs1, d1, ds1, p1, q1, rfl, rfl, rfl, h1, r1⟩ := trodAll_cons r0
  obtain ⟨rfl, rfl, rfl⟩ := trodAll_nil r1
  obtain rfl : args = #[v0, v1] := by cases args; simp_all
  obtain ⟨rfl, rfl⟩ := trodVars_none hV
  have ft0 := fits_each hsz (j := 0) rfl rfl
  obtain ⟨m, rfl, ok0⟩ := open_Module (hval 0 26 v0 rfl rfl) h0 ft0
  obtain ⟨s, rfl, rfl, rfl, w1⟩ := open_string Try.underlying9 (hval 1 9 v1 rfl rfl) h1
  have z1 : s.size ≤ 140737488351232 := by have := sized_string hsz (j := 1) (t := 9) rfl rfl; simpa [reachBytes] using this
  refine (ModuleTells_any m s W ok0 z1).mono fun e W' ⟨he, hb⟩ => ?_
  subst he
  exact ⟨_, rfl, law_post Try.laidOut hW' rfl (by decide +kernel) rfl Try.underlying4 rfl rfl rfl hb⟩

theorem moduleTells_holds : Rows.ModuleTellsSaid :=
  OpenClaim.holds_of_wide 9 Try.f9 rfl rfl rfl rfl rfl rfl rfl ⟨rfl, rfl, rfl, rfl, rfl⟩ rfl rfl rfl rfl rfl (by kernel_rfl) Try.func9 (by kernel_rfl)
    (of_decide_eq_true (by kernel_rfl)) (by unfold Func.isWrapper; first | (rw [if_pos (by decide +kernel)]; kernel_rfl) | (rw [if_neg (by decide +kernel)]; exact ⟨rfl, rfl⟩))
    (fun os started H enc _ => moduleTells_lifted os started H enc)
#print axioms moduleTells_holds

end Go.Proofs.Ytdpacbdejfjkcaa
