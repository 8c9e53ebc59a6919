import Derived.Test.YtjnfemcfohflnaaLAreaW
import Derived.Test.YtjnfemcfohflnaaLits
/- linkBegun returns true. -/
namespace Go.Proofs.Ytjnfemcfohflnaa
open Go.RowKit
open Gs (Tx)

abbrev pairB (a1 a2 a3 b1 b2 b3 : Option Addr) (a4 a5 a6 b4 b5 b6 : Nat) : List Plc := [⟨appM a1 a2 a3 a4 a5 a6, 1⟩, ⟨libM b1 b2 b3 b4 b5 b6, 4⟩]
def imB : Tx := [5, 17, 0, 0, 223, 247, 255, 46] ++ List.replicate 56 255
def arB : Tx := List.replicate 64 255 ++ imB ++ List.replicate 128 255 ++ ([97, 98, 99, 100, 101, 102, 103, 104] ++ List.replicate 56 255) ++ List.replicate 704 255
section
variable (A : Option Addr) (c : Nat) (a1 a2 a3 b1 b2 b3 : Option Addr) (a4 a5 a6 b4 b5 b6 : Nat)
theorem lb_link : linkErr (kern A c) (pairB a1 a2 a3 b1 b2 b3 a4 a5 a6 b4 b5 b6) = 0 := by
  unfold linkErr
  have h0 : krnErr (kern A c) = 0 := by kernel_rfl
  have h1 : regErr (pairB a1 a2 a3 b1 b2 b3 a4 a5 a6 b4 b5 b6) = 0 := by kernel_rfl
  have h2 : isTwice (pairB a1 a2 a3 b1 b2 b3 a4 a5 a6 b4 b5 b6) = false := by
    cases e : isTwice (pairB a1 a2 a3 b1 b2 b3 a4 a5 a6 b4 b5 b6)
    · rfl
    · rw [twice_nodup] at e
      exact absurd (show ([[97, 112, 112], [108, 105, 98]] : List Tx).Nodup by decide) e
  rw [h0, h1, h2]; rfl
theorem lb_imgE : imageErr (kern A c) (pairB a1 a2 a3 b1 b2 b3 a4 a5 a6 b4 b5 b6) ⟨#[97, 112, 112]⟩ = 0 := by
  unfold imageErr; rw [lb_link]; kernel_rfl
theorem lb_img : imageT (kern A c) (pairB a1 a2 a3 b1 b2 b3 a4 a5 a6 b4 b5 b6) ⟨#[97, 112, 112]⟩ = imB := by
  unfold imageT; rw [lb_link]; kernel_rfl
theorem lb_areaE : areaErr (kern A c) (pairB a1 a2 a3 b1 b2 b3 a4 a5 a6 b4 b5 b6) = 0 := by
  unfold areaErr; rw [lb_link]; kernel_rfl
theorem lb_area : areaT (kern A c) (pairB a1 a2 a3 b1 b2 b3 a4 a5 a6 b4 b5 b6) = arB := by
  unfold areaT; rw [lb_link]; kernel_rfl
end

set_option maxHeartbeats 4000000 in
set_option maxRecDepth 100000 in
theorem linkBegun_any (w : World) : Calls Try.prog 5 #[] w fun e w' => e = .returned (.bool true) ∧ Below w.heap.size w w' := by
  obtain ⟨I, hI⟩ : ∃ I, I = bs imB := ⟨_, rfl⟩
  obtain ⟨R, hR⟩ : ∃ R, R = bs arB := ⟨_, rfl⟩
  have s1 : I.size = 64 := by rw [hI]; kernel_rfl
  have s2 : R.size = 1024 := by rw [hR]; kernel_rfl
  have e1 : I.extract 0 9 = ⟨#[5, 17, 0, 0, 223, 247, 255, 46, 255]⟩ := by rw [hI]; kernel_rfl
  have e2 : R.extract 64 128 = I := by rw [hI, hR]; kernel_rfl
  have e3 : R.extract 256 265 = ⟨#[97, 98, 99, 100, 101, 102, 103, 104, 255]⟩ := by rw [hR]; kernel_rfl
  have HI := Lib.hid hI
  have HR := Lib.hid hR
  clear hI hR
  go_enter Try.func5, Try.ntmps5
  go_wp2_with fail
  refine (kernel_any _).mono ?_; rintro e w1 ⟨⟨A1, c1, rfl, hk1⟩, hb1⟩
  go_wp2_with fail
  refine (pair_any _).mono ?_; rintro e w2 ⟨⟨A2, c2, a1, a2, a3, a4, a5, a6, b1, b2, b3, b4, b5, b6, rfl, hl2⟩, hb2⟩
  have f1 := Lib.hid (Image_any (kern A1 c1) A2 c2 (pairB a1 a2 a3 b1 b2 b3 a4 a5 a6 b4 b5 b6) ⟨#[97, 112, 112]⟩ w2 (hk1.below hb2) hl2)
  rw [lb_imgE, lb_img, ← HI.out] at f1
  have HB2 := Lib.hid (hb1.trans (hb2.mono hb1.size))
  clear hk1 hl2 hb1 hb2
  go_wp2_with fail
  refine (f1.out).mono ?_; rintro e w3 ⟨rfl, hb3⟩
  have HB3 := Lib.hid (HB2.out.trans (hb3.mono HB2.out.size))
  clear hb3 f1
  go_wp2_with fail
  refine (kernel_any _).mono ?_; rintro e w4 ⟨⟨A3, c3, rfl, hk3⟩, hb4⟩
  go_wp2_with fail
  refine (pair_any _).mono ?_; rintro e w5 ⟨⟨A4, c4, d1, d2, d3, d4, d5, d6, g1, g2, g3, g4, g5, g6, rfl, hl4⟩, hb5⟩
  have f2 := Lib.hid (Area_any (kern A3 c3) A4 c4 (pairB d1 d2 d3 g1 g2 g3 d4 d5 d6 g4 g5 g6) w5 (hk3.below hb5) hl4)
  rw [lb_areaE, lb_area, ← HR.out] at f2
  have HB5 := Lib.hid (HB3.out.trans ((hb4.trans (hb5.mono hb4.size)).mono HB3.out.size))
  clear hk3 hl4 hb4 hb5
  go_wp2_with fail
  refine (f2.out).mono ?_; rintro e w6 ⟨rfl, hb6⟩
  have HB6 := Lib.hid (HB5.out.trans (hb6.mono HB5.out.size))
  clear hb6 f2
  go_wp2_with fail
  go_ret
  exact ⟨by simp, HB6.out⟩

end Go.Proofs.Ytjnfemcfohflnaa
