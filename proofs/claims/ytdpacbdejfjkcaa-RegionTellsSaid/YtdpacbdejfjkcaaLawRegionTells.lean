import Derived.Test.YtdpacbdejfjkcaaRegBegun
import Derived.Test.YtdpacbdejfjkcaaOpen
/- RegionTells: Size, Free and First answer just what the document says, errors too, whatever they are handed. No condition. -/
namespace Go.Proofs.Ytdpacbdejfjkcaa
open Go.ChangeShapes Go.WideShapes Go.ChangeAt Go.RowKit Go.WideMaps Go.WideElems
open Go.ChangeMaps (setBlock shut_map_nil open_string shut_string keptBut_setBlock frozen?_setBlock heap_setBlock_same)

theorem freeOf_length (l : List Plc) : (freeOf l).length ≤ 100 := by
  unfold freeOf
  split
  · simp
  · have := runsFrom_length l 0
    have := (reg_row (by omega : regErr l = 0)).1
    unfold runsOf; omega

set_option maxRecDepth 100000 in
set_option maxHeartbeats 8000000 in
theorem RegionTells_any (m : Mod) (A : Option Addr) (l : List Plc) (c : Nat) (many : Int) (w : World) (hm : m.ok w) (h : PlsOk w A l) :
    Calls Try.prog 3 #[m.v, .slice A l.length c, .int .i64 many] w fun e w' => e = .returned (.bool true) ∧ Below w.heap.size w w' := by
  obtain ⟨w0, hw0⟩ : ∃ w0, w0 = w.alloc (.cells #[.string m.name, .int .i64 m.major, .int .i64 m.minor, .string m.text, .slice m.eA m.ex.length m.eC, .slice m.iA m.im.length m.iC, .slice m.pA m.pa.length m.pC] 26) := ⟨_, rfl⟩
  obtain ⟨e0, e1, e2, e3, e4, e5, e6, hz, hb⟩ := box7 hw0
  have hw0' := hw0.symm
  have hz0 : w.heap.size < w0.heap.size := by omega
  have H0 := Lib.hid hb
  have cS := Lib.hid (Size_any m w0 (hm.below hb))
  have cF := Lib.hid (fun W (hb : Below w.heap.size w W) => Free_any A c l W (h.below hb))
  have cG := Lib.hid (fun W (hb : Below w.heap.size w W) => First_any A c l many W (h.below hb))
  have cM := Lib.hid (fun W (hb : Below w.heap.size w W) => CheckModule_any m W (hm.below hb))
  have cR := Lib.hid (fun W (hb : Below w.heap.size w W) => CheckRegions_any A c l W (h.below hb))
  have cZ := Lib.hid (fun W => SizeOf_any m W hm.text)
  have cO := Lib.hid (fun W (hb : Below w.heap.size w W) hr => FreeOf_any A c l W (h.below hb) hr)
  have cT := Lib.hid (fun W (hb : Below w.heap.size w W) hr => FitOf_any A c l many W (h.below hb) hr)
  have hlen := freeOf_length l
  have hfree : freeOf l = if regErr l ≠ 0 then [] else runsOf l := rfl
  have hfirst : firstOf l many = if regErr l ≠ 0 then (0, regErr l) else if many < 1 ∨ 16 < many then (0, 3) else if fitIn many (runsOf l) < 0 then (0, 8) else (fitIn many (runsOf l), 0) := rfl
  obtain ⟨U, hU⟩ : ∃ U, U = modErr m := ⟨_, rfl⟩
  obtain ⟨M, hM⟩ : ∃ M, M = manyOf m := ⟨_, rfl⟩
  obtain ⟨V, hV⟩ : ∃ V, V = regErr l := ⟨_, rfl⟩
  obtain ⟨F, hF⟩ : ∃ F, F = freeOf l := ⟨_, rfl⟩
  obtain ⟨G, hG⟩ : ∃ G, G = firstOf l many := ⟨_, rfl⟩
  obtain ⟨n, hn⟩ : ∃ n, n = fitIn many (runsOf l) := ⟨_, rfl⟩
  obtain ⟨R, hR⟩ : ∃ R, R = runsOf l := ⟨_, rfl⟩
  simp only [← hU, ← hM] at cS
  simp only [← hV, ← hF] at cF
  simp only [← hG] at cG
  simp only [← hU] at cM
  simp only [← hV] at cR
  simp only [← hM] at cZ
  simp only [← hV, ← hR] at cO
  simp only [← hV, ← hn] at cT
  rw [← hV, ← hF, ← hR] at hfree
  rw [← hV, ← hG, ← hn] at hfirst
  rw [← hF] at hlen
  have HLEN := Lib.hid hlen
  clear hw0 hb hm h hU hM hV hF hG hn hR hlen
  by_cases tu : U = 0
  · obtain rfl := tu
    rw [if_neg (by omega)] at cS
    by_cases tv : V = 0
    · obtain rfl := tv
      rw [if_neg (by omega)] at hfree hfirst
      subst hfree
      have cO' := Lib.hid (fun W hb => cO.out W hb rfl)
      have cT' := Lib.hid (fun W hb => cT.out W hb rfl)
      clear cO cT
      by_cases t1 : many < 1
      · rw [if_pos (.inl t1)] at hfirst
        subst hfirst
        clear cT'
        go_enter Try.func3, Try.ntmps3
        go_wp2_with (first | (go_at_call 11; refine (cS.out).mono ?_; rintro e w1 ⟨rfl, hb1⟩; have s1 := hb1.size; obtain ⟨hc1, hf1⟩ := bcell hb1; have hz1 : w.heap.size < w1.heap.size := (by omega); have B1 := Lib.hid (H0.out.trans (hb1.mono (by omega)))) | (go_at_call 12; refine (cF.out _ B1.out).mono ?_; rintro e w2 ⟨⟨A2, c2, rfl, hr2⟩, hb2⟩; have s2 := hb2.size; obtain ⟨hc2, hf2⟩ := bcell hb2; have hz2 : w.heap.size < w2.heap.size := (by omega); have R2 := Lib.hid hr2; clear hr2; have B2 := Lib.hid (B1.out.trans (hb2.mono (by omega)))) | (go_at_call 13; refine (cG.out _ B2.out).mono ?_; rintro e w3 ⟨rfl, hb3⟩; have s3 := hb3.size; obtain ⟨hc3, hf3⟩ := bcell hb3; have hz3 : w.heap.size < w3.heap.size := (by omega); have B3 := Lib.hid (B2.out.trans (hb3.mono (by omega))); have D3 := Lib.hid hb3) | (go_at_call 14; refine (cM.out _ B3.out).mono ?_; rintro e w4 ⟨rfl, hb4⟩; have s4 := hb4.size; obtain ⟨hc4, hf4⟩ := bcell hb4; have hz4 : w.heap.size < w4.heap.size := (by omega); have B4 := Lib.hid (B3.out.trans (hb4.mono (by omega))); have D4 := Lib.hid (D3.out.trans (hb4.mono (by omega)))) | (go_at_call 15; refine (cR.out _ B4.out).mono ?_; rintro e w5 ⟨rfl, hb5⟩; have s5 := hb5.size; obtain ⟨hc5, hf5⟩ := bcell hb5; have hz5 : w.heap.size < w5.heap.size := (by omega); have B5 := Lib.hid (B4.out.trans (hb5.mono (by omega))); have D5 := Lib.hid (D4.out.trans (hb5.mono (by omega)))) | (go_at_call 16; refine (cZ.out _).mono ?_; rintro e w6 ⟨rfl, hb6⟩; have s6 := hb6.size; have hz6 : w.heap.size < w6.heap.size := (by omega); have B6 := Lib.hid (B5.out.trans (hb6.mono (by omega))); have D6 := Lib.hid (D5.out.trans (hb6.mono (by omega)))) | (go_at_call 17; refine (cO'.out _ B6.out).mono ?_; rintro e w7 ⟨⟨A7, c7, rfl, hr7⟩, hb7⟩; have s7 := hb7.size; have R7 := Lib.hid hr7; clear hr7; have hz7 : w.heap.size < w7.heap.size := (by omega); have B7 := Lib.hid (B6.out.trans (hb7.mono (by omega))); have D7 := Lib.hid (D6.out.trans (hb7.mono (by omega))); have E7 := Lib.hid (Below.refl w7.heap.size w7)) | (go_at_call 19; refine (regionBegun_any _).mono ?_; rintro e w8 ⟨rfl, hb8⟩; have s8 := hb8.size; have hz8 : w.heap.size < w8.heap.size := (by omega); have B8 := Lib.hid (B7.out.trans (hb8.mono (by omega))); have D8 := Lib.hid (D7.out.trans (hb8.mono (by omega))); have E8 := Lib.hid (E7.out.trans (hb8.mono (by omega)))) | (go_at_call 20; refine (sameRuns_any A2 A7 c2 c7 F _ (R2.out.below D8.out) (R7.out.below E8.out) HLEN.out).mono ?_; rintro e w9 ⟨rfl, hb9⟩))
        go_ret
        exact ⟨by simp, B8.out.trans (hb9.mono (by omega))⟩
      by_cases t2 : 16 < many
      · rw [if_pos (.inr t2)] at hfirst
        subst hfirst
        have t1' : decide (many < 1) = false := by simp; omega
        clear cT' t1
        go_enter Try.func3, Try.ntmps3
        go_wp2_with (first | (go_at_call 11; refine (cS.out).mono ?_; rintro e w1 ⟨rfl, hb1⟩; have s1 := hb1.size; obtain ⟨hc1, hf1⟩ := bcell hb1; have hz1 : w.heap.size < w1.heap.size := (by omega); have B1 := Lib.hid (H0.out.trans (hb1.mono (by omega)))) | (go_at_call 12; refine (cF.out _ B1.out).mono ?_; rintro e w2 ⟨⟨A2, c2, rfl, hr2⟩, hb2⟩; have s2 := hb2.size; obtain ⟨hc2, hf2⟩ := bcell hb2; have hz2 : w.heap.size < w2.heap.size := (by omega); have R2 := Lib.hid hr2; clear hr2; have B2 := Lib.hid (B1.out.trans (hb2.mono (by omega)))) | (go_at_call 13; refine (cG.out _ B2.out).mono ?_; rintro e w3 ⟨rfl, hb3⟩; have s3 := hb3.size; obtain ⟨hc3, hf3⟩ := bcell hb3; have hz3 : w.heap.size < w3.heap.size := (by omega); have B3 := Lib.hid (B2.out.trans (hb3.mono (by omega))); have D3 := Lib.hid hb3) | (go_at_call 14; refine (cM.out _ B3.out).mono ?_; rintro e w4 ⟨rfl, hb4⟩; have s4 := hb4.size; obtain ⟨hc4, hf4⟩ := bcell hb4; have hz4 : w.heap.size < w4.heap.size := (by omega); have B4 := Lib.hid (B3.out.trans (hb4.mono (by omega))); have D4 := Lib.hid (D3.out.trans (hb4.mono (by omega)))) | (go_at_call 15; refine (cR.out _ B4.out).mono ?_; rintro e w5 ⟨rfl, hb5⟩; have s5 := hb5.size; obtain ⟨hc5, hf5⟩ := bcell hb5; have hz5 : w.heap.size < w5.heap.size := (by omega); have B5 := Lib.hid (B4.out.trans (hb5.mono (by omega))); have D5 := Lib.hid (D4.out.trans (hb5.mono (by omega)))) | (go_at_call 16; refine (cZ.out _).mono ?_; rintro e w6 ⟨rfl, hb6⟩; have s6 := hb6.size; have hz6 : w.heap.size < w6.heap.size := (by omega); have B6 := Lib.hid (B5.out.trans (hb6.mono (by omega))); have D6 := Lib.hid (D5.out.trans (hb6.mono (by omega)))) | (go_at_call 17; refine (cO'.out _ B6.out).mono ?_; rintro e w7 ⟨⟨A7, c7, rfl, hr7⟩, hb7⟩; have s7 := hb7.size; have R7 := Lib.hid hr7; clear hr7; have hz7 : w.heap.size < w7.heap.size := (by omega); have B7 := Lib.hid (B6.out.trans (hb7.mono (by omega))); have D7 := Lib.hid (D6.out.trans (hb7.mono (by omega))); have E7 := Lib.hid (Below.refl w7.heap.size w7)) | (go_at_call 19; refine (regionBegun_any _).mono ?_; rintro e w8 ⟨rfl, hb8⟩; have s8 := hb8.size; have hz8 : w.heap.size < w8.heap.size := (by omega); have B8 := Lib.hid (B7.out.trans (hb8.mono (by omega))); have D8 := Lib.hid (D7.out.trans (hb8.mono (by omega))); have E8 := Lib.hid (E7.out.trans (hb8.mono (by omega)))) | (go_at_call 20; refine (sameRuns_any A2 A7 c2 c7 F _ (R2.out.below D8.out) (R7.out.below E8.out) HLEN.out).mono ?_; rintro e w9 ⟨rfl, hb9⟩))
        go_ret
        exact ⟨by simp, B8.out.trans (hb9.mono (by omega))⟩
      rw [if_neg (by omega)] at hfirst
      have t1' : decide (many < 1) = false := by simp; omega
      have t2' : decide (16 < many) = false := by simp; omega
      clear t1 t2
      by_cases t3 : n < 0
      · rw [if_pos t3] at hfirst
        subst hfirst
        go_enter Try.func3, Try.ntmps3
        go_wp2_with (first | (go_at_call 11; refine (cS.out).mono ?_; rintro e w1 ⟨rfl, hb1⟩; have s1 := hb1.size; obtain ⟨hc1, hf1⟩ := bcell hb1; have hz1 : w.heap.size < w1.heap.size := (by omega); have B1 := Lib.hid (H0.out.trans (hb1.mono (by omega)))) | (go_at_call 12; refine (cF.out _ B1.out).mono ?_; rintro e w2 ⟨⟨A2, c2, rfl, hr2⟩, hb2⟩; have s2 := hb2.size; obtain ⟨hc2, hf2⟩ := bcell hb2; have hz2 : w.heap.size < w2.heap.size := (by omega); have R2 := Lib.hid hr2; clear hr2; have B2 := Lib.hid (B1.out.trans (hb2.mono (by omega)))) | (go_at_call 13; refine (cG.out _ B2.out).mono ?_; rintro e w3 ⟨rfl, hb3⟩; have s3 := hb3.size; obtain ⟨hc3, hf3⟩ := bcell hb3; have hz3 : w.heap.size < w3.heap.size := (by omega); have B3 := Lib.hid (B2.out.trans (hb3.mono (by omega))); have D3 := Lib.hid hb3) | (go_at_call 14; refine (cM.out _ B3.out).mono ?_; rintro e w4 ⟨rfl, hb4⟩; have s4 := hb4.size; obtain ⟨hc4, hf4⟩ := bcell hb4; have hz4 : w.heap.size < w4.heap.size := (by omega); have B4 := Lib.hid (B3.out.trans (hb4.mono (by omega))); have D4 := Lib.hid (D3.out.trans (hb4.mono (by omega)))) | (go_at_call 15; refine (cR.out _ B4.out).mono ?_; rintro e w5 ⟨rfl, hb5⟩; have s5 := hb5.size; obtain ⟨hc5, hf5⟩ := bcell hb5; have hz5 : w.heap.size < w5.heap.size := (by omega); have B5 := Lib.hid (B4.out.trans (hb5.mono (by omega))); have D5 := Lib.hid (D4.out.trans (hb5.mono (by omega)))) | (go_at_call 16; refine (cZ.out _).mono ?_; rintro e w6 ⟨rfl, hb6⟩; have s6 := hb6.size; have hz6 : w.heap.size < w6.heap.size := (by omega); have B6 := Lib.hid (B5.out.trans (hb6.mono (by omega))); have D6 := Lib.hid (D5.out.trans (hb6.mono (by omega)))) | (go_at_call 17; refine (cO'.out _ B6.out).mono ?_; rintro e w7 ⟨⟨A7, c7, rfl, hr7⟩, hb7⟩; have s7 := hb7.size; have R7 := Lib.hid hr7; clear hr7; have hz7 : w.heap.size < w7.heap.size := (by omega); have B7 := Lib.hid (B6.out.trans (hb7.mono (by omega))); have D7 := Lib.hid (D6.out.trans (hb7.mono (by omega))); have E7 := Lib.hid (Below.refl w7.heap.size w7)) | (go_at_call 18; refine (cT'.out _ B7.out).mono ?_; rintro e w8 ⟨rfl, hb8⟩; have s8 := hb8.size; have hz8 : w.heap.size < w8.heap.size := (by omega); have B8 := Lib.hid (B7.out.trans (hb8.mono (by omega))); have D8 := Lib.hid (D7.out.trans (hb8.mono (by omega))); have E8 := Lib.hid (E7.out.trans (hb8.mono (by omega)))) | (go_at_call 19; refine (regionBegun_any _).mono ?_; rintro e w9 ⟨rfl, hb9⟩; have s9 := hb9.size; have hz9 : w.heap.size < w9.heap.size := (by omega); have B9 := Lib.hid (B8.out.trans (hb9.mono (by omega))); have D9 := Lib.hid (D8.out.trans (hb9.mono (by omega))); have E9 := Lib.hid (E8.out.trans (hb9.mono (by omega)))) | (go_at_call 20; refine (sameRuns_any A2 A7 c2 c7 F _ (R2.out.below D9.out) (R7.out.below E9.out) HLEN.out).mono ?_; rintro e w10 ⟨rfl, hb10⟩))
        go_ret
        exact ⟨by simp, B9.out.trans (hb10.mono (by omega))⟩
      · rw [if_neg t3] at hfirst
        subst hfirst
        have t3' : decide (n < 0) = false := by simp; omega
        clear t3
        go_enter Try.func3, Try.ntmps3
        go_wp2_with (first | (go_at_call 11; refine (cS.out).mono ?_; rintro e w1 ⟨rfl, hb1⟩; have s1 := hb1.size; obtain ⟨hc1, hf1⟩ := bcell hb1; have hz1 : w.heap.size < w1.heap.size := (by omega); have B1 := Lib.hid (H0.out.trans (hb1.mono (by omega)))) | (go_at_call 12; refine (cF.out _ B1.out).mono ?_; rintro e w2 ⟨⟨A2, c2, rfl, hr2⟩, hb2⟩; have s2 := hb2.size; obtain ⟨hc2, hf2⟩ := bcell hb2; have hz2 : w.heap.size < w2.heap.size := (by omega); have R2 := Lib.hid hr2; clear hr2; have B2 := Lib.hid (B1.out.trans (hb2.mono (by omega)))) | (go_at_call 13; refine (cG.out _ B2.out).mono ?_; rintro e w3 ⟨rfl, hb3⟩; have s3 := hb3.size; obtain ⟨hc3, hf3⟩ := bcell hb3; have hz3 : w.heap.size < w3.heap.size := (by omega); have B3 := Lib.hid (B2.out.trans (hb3.mono (by omega))); have D3 := Lib.hid hb3) | (go_at_call 14; refine (cM.out _ B3.out).mono ?_; rintro e w4 ⟨rfl, hb4⟩; have s4 := hb4.size; obtain ⟨hc4, hf4⟩ := bcell hb4; have hz4 : w.heap.size < w4.heap.size := (by omega); have B4 := Lib.hid (B3.out.trans (hb4.mono (by omega))); have D4 := Lib.hid (D3.out.trans (hb4.mono (by omega)))) | (go_at_call 15; refine (cR.out _ B4.out).mono ?_; rintro e w5 ⟨rfl, hb5⟩; have s5 := hb5.size; obtain ⟨hc5, hf5⟩ := bcell hb5; have hz5 : w.heap.size < w5.heap.size := (by omega); have B5 := Lib.hid (B4.out.trans (hb5.mono (by omega))); have D5 := Lib.hid (D4.out.trans (hb5.mono (by omega)))) | (go_at_call 16; refine (cZ.out _).mono ?_; rintro e w6 ⟨rfl, hb6⟩; have s6 := hb6.size; have hz6 : w.heap.size < w6.heap.size := (by omega); have B6 := Lib.hid (B5.out.trans (hb6.mono (by omega))); have D6 := Lib.hid (D5.out.trans (hb6.mono (by omega)))) | (go_at_call 17; refine (cO'.out _ B6.out).mono ?_; rintro e w7 ⟨⟨A7, c7, rfl, hr7⟩, hb7⟩; have s7 := hb7.size; have R7 := Lib.hid hr7; clear hr7; have hz7 : w.heap.size < w7.heap.size := (by omega); have B7 := Lib.hid (B6.out.trans (hb7.mono (by omega))); have D7 := Lib.hid (D6.out.trans (hb7.mono (by omega))); have E7 := Lib.hid (Below.refl w7.heap.size w7)) | (go_at_call 18; refine (cT'.out _ B7.out).mono ?_; rintro e w8 ⟨rfl, hb8⟩; have s8 := hb8.size; have hz8 : w.heap.size < w8.heap.size := (by omega); have B8 := Lib.hid (B7.out.trans (hb8.mono (by omega))); have D8 := Lib.hid (D7.out.trans (hb8.mono (by omega))); have E8 := Lib.hid (E7.out.trans (hb8.mono (by omega)))) | (go_at_call 19; refine (regionBegun_any _).mono ?_; rintro e w9 ⟨rfl, hb9⟩; have s9 := hb9.size; have hz9 : w.heap.size < w9.heap.size := (by omega); have B9 := Lib.hid (B8.out.trans (hb9.mono (by omega))); have D9 := Lib.hid (D8.out.trans (hb9.mono (by omega))); have E9 := Lib.hid (E8.out.trans (hb9.mono (by omega)))) | (go_at_call 20; refine (sameRuns_any A2 A7 c2 c7 F _ (R2.out.below D9.out) (R7.out.below E9.out) HLEN.out).mono ?_; rintro e w10 ⟨rfl, hb10⟩))
        go_ret
        exact ⟨by simp, B9.out.trans (hb10.mono (by omega))⟩
    · rw [if_pos tv] at hfree hfirst
      subst hfree
      subst hfirst
      have tv' : (V == 0) = false := by simp [tv]
      clear tv cO cT
      go_enter Try.func3, Try.ntmps3
      go_wp2_with (first | (go_at_call 11; refine (cS.out).mono ?_; rintro e w1 ⟨rfl, hb1⟩; have s1 := hb1.size; obtain ⟨hc1, hf1⟩ := bcell hb1; have hz1 : w.heap.size < w1.heap.size := (by omega); have B1 := Lib.hid (H0.out.trans (hb1.mono (by omega)))) | (go_at_call 12; refine (cF.out _ B1.out).mono ?_; rintro e w2 ⟨⟨A2, c2, rfl, hr2⟩, hb2⟩; have s2 := hb2.size; obtain ⟨hc2, hf2⟩ := bcell hb2; have hz2 : w.heap.size < w2.heap.size := (by omega); have R2 := Lib.hid hr2; clear hr2; have B2 := Lib.hid (B1.out.trans (hb2.mono (by omega)))) | (go_at_call 13; refine (cG.out _ B2.out).mono ?_; rintro e w3 ⟨rfl, hb3⟩; have s3 := hb3.size; obtain ⟨hc3, hf3⟩ := bcell hb3; have hz3 : w.heap.size < w3.heap.size := (by omega); have B3 := Lib.hid (B2.out.trans (hb3.mono (by omega))); have D3 := Lib.hid hb3) | (go_at_call 14; refine (cM.out _ B3.out).mono ?_; rintro e w4 ⟨rfl, hb4⟩; have s4 := hb4.size; obtain ⟨hc4, hf4⟩ := bcell hb4; have hz4 : w.heap.size < w4.heap.size := (by omega); have B4 := Lib.hid (B3.out.trans (hb4.mono (by omega))); have D4 := Lib.hid (D3.out.trans (hb4.mono (by omega)))) | (go_at_call 15; refine (cR.out _ B4.out).mono ?_; rintro e w5 ⟨rfl, hb5⟩; have s5 := hb5.size; obtain ⟨hc5, hf5⟩ := bcell hb5; have hz5 : w.heap.size < w5.heap.size := (by omega); have B5 := Lib.hid (B4.out.trans (hb5.mono (by omega))); have D5 := Lib.hid (D4.out.trans (hb5.mono (by omega)))) | (go_at_call 16; refine (cZ.out _).mono ?_; rintro e w6 ⟨rfl, hb6⟩; have s6 := hb6.size; have hz6 : w.heap.size < w6.heap.size := (by omega); have B6 := Lib.hid (B5.out.trans (hb6.mono (by omega))); have D6 := Lib.hid (D5.out.trans (hb6.mono (by omega)))) | (go_at_call 19; refine (regionBegun_any _).mono ?_; rintro e w7 ⟨rfl, hb7⟩; have s7 := hb7.size; have hz7 : w.heap.size < w7.heap.size := (by omega); have B7 := Lib.hid (B6.out.trans (hb7.mono (by omega))); have D7 := Lib.hid (D6.out.trans (hb7.mono (by omega)))) | (go_at_call 20; refine (sameRuns_any A2 none c2 0 [] _ (R2.out.below D7.out) Row.nil (by simp)).mono ?_; rintro e w8 ⟨rfl, hb8⟩))
      go_ret
      exact ⟨by simp, B7.out.trans (hb8.mono (by omega))⟩
  · have tu' : (U == 0) = false := by simp [tu]
    rw [if_pos tu] at cS
    clear tu cZ
    by_cases tv : V = 0
    · obtain rfl := tv
      rw [if_neg (by omega)] at hfree hfirst
      subst hfree
      have cO' := Lib.hid (fun W hb => cO.out W hb rfl)
      have cT' := Lib.hid (fun W hb => cT.out W hb rfl)
      clear cO cT
      by_cases t1 : many < 1
      · rw [if_pos (.inl t1)] at hfirst
        subst hfirst
        clear cT'
        go_enter Try.func3, Try.ntmps3
        go_wp2_with (first | (go_at_call 11; refine (cS.out).mono ?_; rintro e w1 ⟨rfl, hb1⟩; have s1 := hb1.size; obtain ⟨hc1, hf1⟩ := bcell hb1; have hz1 : w.heap.size < w1.heap.size := (by omega); have B1 := Lib.hid (H0.out.trans (hb1.mono (by omega)))) | (go_at_call 12; refine (cF.out _ B1.out).mono ?_; rintro e w2 ⟨⟨A2, c2, rfl, hr2⟩, hb2⟩; have s2 := hb2.size; obtain ⟨hc2, hf2⟩ := bcell hb2; have hz2 : w.heap.size < w2.heap.size := (by omega); have R2 := Lib.hid hr2; clear hr2; have B2 := Lib.hid (B1.out.trans (hb2.mono (by omega)))) | (go_at_call 13; refine (cG.out _ B2.out).mono ?_; rintro e w3 ⟨rfl, hb3⟩; have s3 := hb3.size; obtain ⟨hc3, hf3⟩ := bcell hb3; have hz3 : w.heap.size < w3.heap.size := (by omega); have B3 := Lib.hid (B2.out.trans (hb3.mono (by omega))); have D3 := Lib.hid hb3) | (go_at_call 14; refine (cM.out _ B3.out).mono ?_; rintro e w4 ⟨rfl, hb4⟩; have s4 := hb4.size; obtain ⟨hc4, hf4⟩ := bcell hb4; have hz4 : w.heap.size < w4.heap.size := (by omega); have B4 := Lib.hid (B3.out.trans (hb4.mono (by omega))); have D4 := Lib.hid (D3.out.trans (hb4.mono (by omega)))) | (go_at_call 15; refine (cR.out _ B4.out).mono ?_; rintro e w5 ⟨rfl, hb5⟩; have s5 := hb5.size; obtain ⟨hc5, hf5⟩ := bcell hb5; have hz5 : w.heap.size < w5.heap.size := (by omega); have B5 := Lib.hid (B4.out.trans (hb5.mono (by omega))); have D5 := Lib.hid (D4.out.trans (hb5.mono (by omega)))) | (go_at_call 17; refine (cO'.out _ B5.out).mono ?_; rintro e w6 ⟨⟨A6, c6, rfl, hr6⟩, hb6⟩; have s6 := hb6.size; have R6 := Lib.hid hr6; clear hr6; have hz6 : w.heap.size < w6.heap.size := (by omega); have B6 := Lib.hid (B5.out.trans (hb6.mono (by omega))); have D6 := Lib.hid (D5.out.trans (hb6.mono (by omega))); have E6 := Lib.hid (Below.refl w6.heap.size w6)) | (go_at_call 19; refine (regionBegun_any _).mono ?_; rintro e w7 ⟨rfl, hb7⟩; have s7 := hb7.size; have hz7 : w.heap.size < w7.heap.size := (by omega); have B7 := Lib.hid (B6.out.trans (hb7.mono (by omega))); have D7 := Lib.hid (D6.out.trans (hb7.mono (by omega))); have E7 := Lib.hid (E6.out.trans (hb7.mono (by omega)))) | (go_at_call 20; refine (sameRuns_any A2 A6 c2 c6 F _ (R2.out.below D7.out) (R6.out.below E7.out) HLEN.out).mono ?_; rintro e w8 ⟨rfl, hb8⟩))
        go_ret
        exact ⟨by simp, B7.out.trans (hb8.mono (by omega))⟩
      by_cases t2 : 16 < many
      · rw [if_pos (.inr t2)] at hfirst
        subst hfirst
        have t1' : decide (many < 1) = false := by simp; omega
        clear cT' t1
        go_enter Try.func3, Try.ntmps3
        go_wp2_with (first | (go_at_call 11; refine (cS.out).mono ?_; rintro e w1 ⟨rfl, hb1⟩; have s1 := hb1.size; obtain ⟨hc1, hf1⟩ := bcell hb1; have hz1 : w.heap.size < w1.heap.size := (by omega); have B1 := Lib.hid (H0.out.trans (hb1.mono (by omega)))) | (go_at_call 12; refine (cF.out _ B1.out).mono ?_; rintro e w2 ⟨⟨A2, c2, rfl, hr2⟩, hb2⟩; have s2 := hb2.size; obtain ⟨hc2, hf2⟩ := bcell hb2; have hz2 : w.heap.size < w2.heap.size := (by omega); have R2 := Lib.hid hr2; clear hr2; have B2 := Lib.hid (B1.out.trans (hb2.mono (by omega)))) | (go_at_call 13; refine (cG.out _ B2.out).mono ?_; rintro e w3 ⟨rfl, hb3⟩; have s3 := hb3.size; obtain ⟨hc3, hf3⟩ := bcell hb3; have hz3 : w.heap.size < w3.heap.size := (by omega); have B3 := Lib.hid (B2.out.trans (hb3.mono (by omega))); have D3 := Lib.hid hb3) | (go_at_call 14; refine (cM.out _ B3.out).mono ?_; rintro e w4 ⟨rfl, hb4⟩; have s4 := hb4.size; obtain ⟨hc4, hf4⟩ := bcell hb4; have hz4 : w.heap.size < w4.heap.size := (by omega); have B4 := Lib.hid (B3.out.trans (hb4.mono (by omega))); have D4 := Lib.hid (D3.out.trans (hb4.mono (by omega)))) | (go_at_call 15; refine (cR.out _ B4.out).mono ?_; rintro e w5 ⟨rfl, hb5⟩; have s5 := hb5.size; obtain ⟨hc5, hf5⟩ := bcell hb5; have hz5 : w.heap.size < w5.heap.size := (by omega); have B5 := Lib.hid (B4.out.trans (hb5.mono (by omega))); have D5 := Lib.hid (D4.out.trans (hb5.mono (by omega)))) | (go_at_call 17; refine (cO'.out _ B5.out).mono ?_; rintro e w6 ⟨⟨A6, c6, rfl, hr6⟩, hb6⟩; have s6 := hb6.size; have R6 := Lib.hid hr6; clear hr6; have hz6 : w.heap.size < w6.heap.size := (by omega); have B6 := Lib.hid (B5.out.trans (hb6.mono (by omega))); have D6 := Lib.hid (D5.out.trans (hb6.mono (by omega))); have E6 := Lib.hid (Below.refl w6.heap.size w6)) | (go_at_call 19; refine (regionBegun_any _).mono ?_; rintro e w7 ⟨rfl, hb7⟩; have s7 := hb7.size; have hz7 : w.heap.size < w7.heap.size := (by omega); have B7 := Lib.hid (B6.out.trans (hb7.mono (by omega))); have D7 := Lib.hid (D6.out.trans (hb7.mono (by omega))); have E7 := Lib.hid (E6.out.trans (hb7.mono (by omega)))) | (go_at_call 20; refine (sameRuns_any A2 A6 c2 c6 F _ (R2.out.below D7.out) (R6.out.below E7.out) HLEN.out).mono ?_; rintro e w8 ⟨rfl, hb8⟩))
        go_ret
        exact ⟨by simp, B7.out.trans (hb8.mono (by omega))⟩
      rw [if_neg (by omega)] at hfirst
      have t1' : decide (many < 1) = false := by simp; omega
      have t2' : decide (16 < many) = false := by simp; omega
      clear t1 t2
      by_cases t3 : n < 0
      · rw [if_pos t3] at hfirst
        subst hfirst
        go_enter Try.func3, Try.ntmps3
        go_wp2_with (first | (go_at_call 11; refine (cS.out).mono ?_; rintro e w1 ⟨rfl, hb1⟩; have s1 := hb1.size; obtain ⟨hc1, hf1⟩ := bcell hb1; have hz1 : w.heap.size < w1.heap.size := (by omega); have B1 := Lib.hid (H0.out.trans (hb1.mono (by omega)))) | (go_at_call 12; refine (cF.out _ B1.out).mono ?_; rintro e w2 ⟨⟨A2, c2, rfl, hr2⟩, hb2⟩; have s2 := hb2.size; obtain ⟨hc2, hf2⟩ := bcell hb2; have hz2 : w.heap.size < w2.heap.size := (by omega); have R2 := Lib.hid hr2; clear hr2; have B2 := Lib.hid (B1.out.trans (hb2.mono (by omega)))) | (go_at_call 13; refine (cG.out _ B2.out).mono ?_; rintro e w3 ⟨rfl, hb3⟩; have s3 := hb3.size; obtain ⟨hc3, hf3⟩ := bcell hb3; have hz3 : w.heap.size < w3.heap.size := (by omega); have B3 := Lib.hid (B2.out.trans (hb3.mono (by omega))); have D3 := Lib.hid hb3) | (go_at_call 14; refine (cM.out _ B3.out).mono ?_; rintro e w4 ⟨rfl, hb4⟩; have s4 := hb4.size; obtain ⟨hc4, hf4⟩ := bcell hb4; have hz4 : w.heap.size < w4.heap.size := (by omega); have B4 := Lib.hid (B3.out.trans (hb4.mono (by omega))); have D4 := Lib.hid (D3.out.trans (hb4.mono (by omega)))) | (go_at_call 15; refine (cR.out _ B4.out).mono ?_; rintro e w5 ⟨rfl, hb5⟩; have s5 := hb5.size; obtain ⟨hc5, hf5⟩ := bcell hb5; have hz5 : w.heap.size < w5.heap.size := (by omega); have B5 := Lib.hid (B4.out.trans (hb5.mono (by omega))); have D5 := Lib.hid (D4.out.trans (hb5.mono (by omega)))) | (go_at_call 17; refine (cO'.out _ B5.out).mono ?_; rintro e w6 ⟨⟨A6, c6, rfl, hr6⟩, hb6⟩; have s6 := hb6.size; have R6 := Lib.hid hr6; clear hr6; have hz6 : w.heap.size < w6.heap.size := (by omega); have B6 := Lib.hid (B5.out.trans (hb6.mono (by omega))); have D6 := Lib.hid (D5.out.trans (hb6.mono (by omega))); have E6 := Lib.hid (Below.refl w6.heap.size w6)) | (go_at_call 18; refine (cT'.out _ B6.out).mono ?_; rintro e w7 ⟨rfl, hb7⟩; have s7 := hb7.size; have hz7 : w.heap.size < w7.heap.size := (by omega); have B7 := Lib.hid (B6.out.trans (hb7.mono (by omega))); have D7 := Lib.hid (D6.out.trans (hb7.mono (by omega))); have E7 := Lib.hid (E6.out.trans (hb7.mono (by omega)))) | (go_at_call 19; refine (regionBegun_any _).mono ?_; rintro e w8 ⟨rfl, hb8⟩; have s8 := hb8.size; have hz8 : w.heap.size < w8.heap.size := (by omega); have B8 := Lib.hid (B7.out.trans (hb8.mono (by omega))); have D8 := Lib.hid (D7.out.trans (hb8.mono (by omega))); have E8 := Lib.hid (E7.out.trans (hb8.mono (by omega)))) | (go_at_call 20; refine (sameRuns_any A2 A6 c2 c6 F _ (R2.out.below D8.out) (R6.out.below E8.out) HLEN.out).mono ?_; rintro e w9 ⟨rfl, hb9⟩))
        go_ret
        exact ⟨by simp, B8.out.trans (hb9.mono (by omega))⟩
      · rw [if_neg t3] at hfirst
        subst hfirst
        have t3' : decide (n < 0) = false := by simp; omega
        clear t3
        go_enter Try.func3, Try.ntmps3
        go_wp2_with (first | (go_at_call 11; refine (cS.out).mono ?_; rintro e w1 ⟨rfl, hb1⟩; have s1 := hb1.size; obtain ⟨hc1, hf1⟩ := bcell hb1; have hz1 : w.heap.size < w1.heap.size := (by omega); have B1 := Lib.hid (H0.out.trans (hb1.mono (by omega)))) | (go_at_call 12; refine (cF.out _ B1.out).mono ?_; rintro e w2 ⟨⟨A2, c2, rfl, hr2⟩, hb2⟩; have s2 := hb2.size; obtain ⟨hc2, hf2⟩ := bcell hb2; have hz2 : w.heap.size < w2.heap.size := (by omega); have R2 := Lib.hid hr2; clear hr2; have B2 := Lib.hid (B1.out.trans (hb2.mono (by omega)))) | (go_at_call 13; refine (cG.out _ B2.out).mono ?_; rintro e w3 ⟨rfl, hb3⟩; have s3 := hb3.size; obtain ⟨hc3, hf3⟩ := bcell hb3; have hz3 : w.heap.size < w3.heap.size := (by omega); have B3 := Lib.hid (B2.out.trans (hb3.mono (by omega))); have D3 := Lib.hid hb3) | (go_at_call 14; refine (cM.out _ B3.out).mono ?_; rintro e w4 ⟨rfl, hb4⟩; have s4 := hb4.size; obtain ⟨hc4, hf4⟩ := bcell hb4; have hz4 : w.heap.size < w4.heap.size := (by omega); have B4 := Lib.hid (B3.out.trans (hb4.mono (by omega))); have D4 := Lib.hid (D3.out.trans (hb4.mono (by omega)))) | (go_at_call 15; refine (cR.out _ B4.out).mono ?_; rintro e w5 ⟨rfl, hb5⟩; have s5 := hb5.size; obtain ⟨hc5, hf5⟩ := bcell hb5; have hz5 : w.heap.size < w5.heap.size := (by omega); have B5 := Lib.hid (B4.out.trans (hb5.mono (by omega))); have D5 := Lib.hid (D4.out.trans (hb5.mono (by omega)))) | (go_at_call 17; refine (cO'.out _ B5.out).mono ?_; rintro e w6 ⟨⟨A6, c6, rfl, hr6⟩, hb6⟩; have s6 := hb6.size; have R6 := Lib.hid hr6; clear hr6; have hz6 : w.heap.size < w6.heap.size := (by omega); have B6 := Lib.hid (B5.out.trans (hb6.mono (by omega))); have D6 := Lib.hid (D5.out.trans (hb6.mono (by omega))); have E6 := Lib.hid (Below.refl w6.heap.size w6)) | (go_at_call 18; refine (cT'.out _ B6.out).mono ?_; rintro e w7 ⟨rfl, hb7⟩; have s7 := hb7.size; have hz7 : w.heap.size < w7.heap.size := (by omega); have B7 := Lib.hid (B6.out.trans (hb7.mono (by omega))); have D7 := Lib.hid (D6.out.trans (hb7.mono (by omega))); have E7 := Lib.hid (E6.out.trans (hb7.mono (by omega)))) | (go_at_call 19; refine (regionBegun_any _).mono ?_; rintro e w8 ⟨rfl, hb8⟩; have s8 := hb8.size; have hz8 : w.heap.size < w8.heap.size := (by omega); have B8 := Lib.hid (B7.out.trans (hb8.mono (by omega))); have D8 := Lib.hid (D7.out.trans (hb8.mono (by omega))); have E8 := Lib.hid (E7.out.trans (hb8.mono (by omega)))) | (go_at_call 20; refine (sameRuns_any A2 A6 c2 c6 F _ (R2.out.below D8.out) (R6.out.below E8.out) HLEN.out).mono ?_; rintro e w9 ⟨rfl, hb9⟩))
        go_ret
        exact ⟨by simp, B8.out.trans (hb9.mono (by omega))⟩
    · rw [if_pos tv] at hfree hfirst
      subst hfree
      subst hfirst
      have tv' : (V == 0) = false := by simp [tv]
      clear tv cO cT
      go_enter Try.func3, Try.ntmps3
      go_wp2_with (first | (go_at_call 11; refine (cS.out).mono ?_; rintro e w1 ⟨rfl, hb1⟩; have s1 := hb1.size; obtain ⟨hc1, hf1⟩ := bcell hb1; have hz1 : w.heap.size < w1.heap.size := (by omega); have B1 := Lib.hid (H0.out.trans (hb1.mono (by omega)))) | (go_at_call 12; refine (cF.out _ B1.out).mono ?_; rintro e w2 ⟨⟨A2, c2, rfl, hr2⟩, hb2⟩; have s2 := hb2.size; obtain ⟨hc2, hf2⟩ := bcell hb2; have hz2 : w.heap.size < w2.heap.size := (by omega); have R2 := Lib.hid hr2; clear hr2; have B2 := Lib.hid (B1.out.trans (hb2.mono (by omega)))) | (go_at_call 13; refine (cG.out _ B2.out).mono ?_; rintro e w3 ⟨rfl, hb3⟩; have s3 := hb3.size; obtain ⟨hc3, hf3⟩ := bcell hb3; have hz3 : w.heap.size < w3.heap.size := (by omega); have B3 := Lib.hid (B2.out.trans (hb3.mono (by omega))); have D3 := Lib.hid hb3) | (go_at_call 14; refine (cM.out _ B3.out).mono ?_; rintro e w4 ⟨rfl, hb4⟩; have s4 := hb4.size; obtain ⟨hc4, hf4⟩ := bcell hb4; have hz4 : w.heap.size < w4.heap.size := (by omega); have B4 := Lib.hid (B3.out.trans (hb4.mono (by omega))); have D4 := Lib.hid (D3.out.trans (hb4.mono (by omega)))) | (go_at_call 15; refine (cR.out _ B4.out).mono ?_; rintro e w5 ⟨rfl, hb5⟩; have s5 := hb5.size; obtain ⟨hc5, hf5⟩ := bcell hb5; have hz5 : w.heap.size < w5.heap.size := (by omega); have B5 := Lib.hid (B4.out.trans (hb5.mono (by omega))); have D5 := Lib.hid (D4.out.trans (hb5.mono (by omega)))) | (go_at_call 19; refine (regionBegun_any _).mono ?_; rintro e w6 ⟨rfl, hb6⟩; have s6 := hb6.size; have hz6 : w.heap.size < w6.heap.size := (by omega); have B6 := Lib.hid (B5.out.trans (hb6.mono (by omega))); have D6 := Lib.hid (D5.out.trans (hb6.mono (by omega)))) | (go_at_call 20; refine (sameRuns_any A2 none c2 0 [] _ (R2.out.below D6.out) Row.nil (by simp)).mono ?_; rintro e w7 ⟨rfl, hb7⟩))
      go_ret
      exact ⟨by simp, B6.out.trans (hb7.mono (by omega))⟩

set_option maxRecDepth 100000 in
theorem regionTells_lifted (os : Os) (started : os.Started) (H : Type) (enc : TypeId × Value → H) :
    ReturnsInHanded {} Try.checked os 3 .any (Rows.regionTellsSpec.pre6 enc Try.prog Try.f3 Rows.regionTellsRow.domain false) (Rows.regionTellsSpec.post enc Try.prog Try.f3 false true false false) := by
  refine returnsInHanded_of_change_sized (C := Try.checked) Try.own started (by kernel_rfl) Try.func3
    (ChangeSpec.witness6 (enc := enc) (C := Try.checked) false ⟨#[], #[.agg #[.string ⟨#[]⟩, .int .i64 0, .int .i64 0, .string ⟨#[]⟩, .slice none 0 0, .slice none 0 0, .slice none 0 0], .slice none 0 0, .int .i64 0], []⟩ 8 (by kernel_rfl) (by kernel_rfl) (by kernel_rfl) (by kernel_rfl)) ?_
  intro W base args ds gs before hval0 hW hcnd hsz0 _
  have hval : ∀ (j : Nat) t v, Try.f3.params[j]? = some t → args[j]? = some v → Value.okWide Try.prog W .any base t v := hval0
  have hsz : (DataW.weightsEach Try.prog (Try.f3.params.toList ++ Rows.regionTellsSpec.plain.varTypes Try.prog) (ds ++ gs)).all (· ≤ reachBytes) = true := hsz0
  have hW' := hW
  obtain ⟨p, q, hA0, hV, rfl, hfz, hnd⟩ := hW
  have hA : DataW.TrodAll enc Try.prog W 0 (fun _ => true) true Try.f3.params.toList args.toList ds p := hA0
  rw [Try.params3] at hA hval hsz
  obtain ⟨v0, vs0, d0, ds0, p0, q0, hargs, rfl, rfl, h0, r0⟩ := trodAll_cons hA
  obtain ⟨v1, vs1, d1, ds1, p1, q1, rfl, rfl, rfl, h1, r1⟩ := trodAll_cons r0
  obtain ⟨v2, vs2, d2, ds2, p2, q2, rfl, rfl, rfl, h2, r2⟩ := trodAll_cons r1
  obtain ⟨rfl, rfl, rfl⟩ := trodAll_nil r2
  obtain rfl : args = #[v0, v1, v2] := by cases args; simp_all
  obtain ⟨rfl, rfl⟩ := trodVars_none hV
  have ft0 := fits_each hsz (j := 0) rfl rfl
  obtain ⟨m, rfl, ok0⟩ := open_Module (hval 0 26 v0 rfl rfl) h0 ft0
  have ft1 := fits_each hsz (j := 1) rfl rfl
  obtain ⟨lA, l, lc, rfl, ok1⟩ := open_Placeds (hval 1 27 v1 rfl rfl) h1 ft1
  obtain ⟨many, rfl, rfl, rfl, w2⟩ := open_int Try.underlying3 (hval 2 3 v2 rfl rfl) h2
  refine (RegionTells_any m lA l lc many W ok0 ok1).mono fun e W' ⟨he, hb⟩ => ?_
  subst he
  exact ⟨_, rfl, law_post Try.laidOut hW' rfl (by decide +kernel) rfl Try.underlying4 rfl rfl rfl hb⟩

theorem regionTells_holds : Rows.RegionTellsSaid :=
  OpenClaim.holds_of_wide 3 Try.f3 rfl rfl rfl rfl rfl rfl rfl ⟨rfl, rfl, rfl, rfl, rfl⟩ rfl rfl rfl rfl rfl (by kernel_rfl) Try.func3 (by kernel_rfl)
    (of_decide_eq_true (by kernel_rfl)) (by unfold Func.isWrapper; first | (rw [if_pos (by decide +kernel)]; kernel_rfl) | (rw [if_neg (by decide +kernel)]; exact ⟨rfl, rfl⟩))
    (fun os started H enc _ => regionTells_lifted os started H enc)
#print axioms regionTells_holds

end Go.Proofs.Ytdpacbdejfjkcaa
