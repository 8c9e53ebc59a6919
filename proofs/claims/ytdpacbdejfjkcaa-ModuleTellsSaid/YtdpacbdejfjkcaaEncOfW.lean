import Derived.Test.YtdpacbdejfjkcaaEncW
import Derived.Test.YtdpacbdejfjkcaaWord2W
/- The document's nameBytes, EncodeOf. -/
namespace Go.Proofs.Ytdpacbdejfjkcaa
open Go.RowKit

abbrev bs (l : List UInt8) : ByteArray := ⟨l.toArray⟩
theorem add_ba {A B S : ByteArray} (h : A.data.toList ++ B.data.toList = S.data.toList) (hsz : S.data.toList.length ≤ 100000) (W : World) : (Op.stringOp .add A B).run Try.prog W = .ok (.string S) W := by
  have e1 : A.data.toList.length = A.size := by rw [Array.length_toList]; rfl
  have e2 : B.data.toList.length = B.size := by rw [Array.length_toList]; rfl
  have e3 := congrArg List.length h
  rw [List.length_append] at e3
  rw [run_string_add_sum _ _ _ (by omega)]
  congr 2
  exact ba_eq (by rw [ba_append, h])

set_option maxHeartbeats 1000000 in
set_option maxRecDepth 100000 in
theorem nameBytes_any (s : ByteArray) (w : World) (hs : s.size ≤ 10) :
    Calls Try.prog 67 #[.string s] w fun e w' => e = .returned (.string (bs (encName s))) ∧ Below w.heap.size w w' := by
  have e1 : s.data.toList.length = s.size := by rw [Array.length_toList]; rfl
  obtain ⟨D, hD⟩ : ∃ D, D = bs (digits s.size 1) := ⟨_, rfl⟩
  obtain ⟨N, hN⟩ : ∃ N, N = bs (encName s) := ⟨_, rfl⟩
  have c1 := Lib.hid (fun W => BytesOf_any s.size 1 W (by omega))
  have a1 := add_ba (A := D) (B := s) (S := N) (by rw [hD, hN]; simp [encName]) (by rw [hN]; simp only; rw [encName_length]; omega)
  change Hid (∀ W, Calls _ _ #[.int .i64 s.size, .int .i64 1] W fun e w' => e = .returned (.string (bs (digits s.size 1))) ∧ Below W.heap.size W w') at c1
  rw [← hD] at c1
  rw [← hN]
  clear hD hN
  go_enter Try.func67, Try.ntmps67
  go_wp2_with (go_at_call 68; refine (c1.out _).mono ?_; rintro e w2 ⟨rfl, hb2⟩)
  go_ret
  exact ⟨rfl, hb2⟩

theorem bytesOf_c1 (n : Int) {D : ByteArray} (hD : D = bs (digits n 1)) (W : World) : Calls Try.prog 68 #[.int .i64 n, .int .i64 1] W fun e w' => e = .returned (.string D) ∧ Below W.heap.size W w' := by
  rw [hD]; exact BytesOf_any n 1 W (by omega)
theorem bytesOf_c2 (n : Int) {D : ByteArray} (hD : D = bs (digits n 2)) (W : World) : Calls Try.prog 68 #[.int .i64 n, .int .i64 2] W fun e w' => e = .returned (.string D) ∧ Below W.heap.size W w' := by
  rw [hD]; exact BytesOf_any n 2 W (by omega)

set_option maxHeartbeats 8000000 in
set_option maxRecDepth 100000 in
theorem EncodeOf_any (m : Mod) (w : World) (hm : m.ok w) (he : modErr m = 0) :
    Calls Try.prog 33 #[m.v] w fun e w' => e = .returned (.string (bs (encMod m))) ∧ Below w.heap.size w w' := by
  obtain ⟨b1, b2, b3, b4, b5, b6, b7⟩ := enc_bounds he
  obtain ⟨w0, hw0⟩ : ∃ w0, w0 = w.alloc (.cells #[.string m.name, .int .i64 m.major, .int .i64 m.minor, .string m.text, .slice m.eA m.ex.length m.eC, .slice m.iA m.im.length m.iC, .slice m.pA m.pa.length m.pC] 26) := ⟨_, rfl⟩
  obtain ⟨e0, e1, e2, e3, e4, e5, e6, hz, hb⟩ := box7 hw0
  obtain ⟨eA, heA⟩ : ∃ eA, eA = m.eA := ⟨_, rfl⟩
  obtain ⟨iA, hiA⟩ : ∃ iA, iA = m.iA := ⟨_, rfl⟩
  obtain ⟨pA, hpA⟩ : ∃ pA, pA = m.pA := ⟨_, rfl⟩
  rw [← heA] at e4
  rw [← hiA] at e5
  rw [← hpA] at e6
  have HEA := Lib.hid heA
  have HIA := Lib.hid hiA
  have HPA := Lib.hid hpA
  have hw0' := hw0.symm
  have hz0 : w.heap.size < w0.heap.size := by omega
  have H0 := Lib.hid hb
  have HM := Lib.hid hm
  have HE0 := Lib.hid he
  have hT : m.text.data.toList.length = m.text.size := by rw [Array.length_toList]; rfl
  obtain ⟨N, hN⟩ : ∃ N, N = bs (encName m.name) := ⟨_, rfl⟩
  obtain ⟨D1, hD1⟩ : ∃ D, D = bs (digits m.major 1) := ⟨_, rfl⟩
  obtain ⟨D2, hD2⟩ : ∃ D, D = bs (digits m.minor 1) := ⟨_, rfl⟩
  obtain ⟨D3, hD3⟩ : ∃ D, D = bs (digits m.text.size 2) := ⟨_, rfl⟩
  obtain ⟨D4, hD4⟩ : ∃ D, D = bs (digits m.ex.length 1) := ⟨_, rfl⟩
  obtain ⟨S1, hS1⟩ : ∃ S, S = bs (encName m.name ++ digits m.major 1) := ⟨_, rfl⟩
  obtain ⟨S2, hS2⟩ : ∃ S, S = bs (encName m.name ++ digits m.major 1 ++ digits m.minor 1) := ⟨_, rfl⟩
  obtain ⟨S3, hS3⟩ : ∃ S, S = bs (encName m.name ++ digits m.major 1 ++ digits m.minor 1 ++ digits m.text.size 2) := ⟨_, rfl⟩
  obtain ⟨S4, hS4⟩ : ∃ S, S = bs (encHead m) := ⟨_, rfl⟩
  obtain ⟨P1, hP1⟩ : ∃ P1, P1 = encHead m ++ digits m.ex.length 1 := ⟨_, rfl⟩
  have hP1l : P1.length ≤ 300 := by rw [hP1]; unfold encHead; simp only [List.length_append, digits_length, encName_length, hT]; omega
  obtain ⟨S5, hS5⟩ : ∃ S, S = bs P1 := ⟨_, rfl⟩
  have a1 := Lib.hid (add_ba (A := N) (B := D1) (S := S1) (by rw [hN, hD1, hS1]) (by rw [hS1]; simp only [List.length_append, digits_length, encName_length]; omega))
  have a2 := Lib.hid (add_ba (A := S1) (B := D2) (S := S2) (by rw [hS1, hD2, hS2]) (by rw [hS2]; simp only [List.length_append, digits_length, encName_length]; omega))
  have a3 := Lib.hid (add_ba (A := S2) (B := D3) (S := S3) (by rw [hS2, hD3, hS3]) (by rw [hS3]; simp only [List.length_append, digits_length, encName_length]; omega))
  have a4 := Lib.hid (add_ba (A := S3) (B := m.text) (S := S4) (by rw [hS3, hS4]; rfl) (by rw [hS4]; unfold encHead; simp only [List.length_append, digits_length, encName_length, hT]; omega))
  have a5 := Lib.hid (add_ba (A := S4) (B := D4) (S := S5) (by rw [hS4, hD4, hS5, hP1]) (by rw [hS5]; simp only; omega))
  have cN := Lib.hid (fun W => nameBytes_any m.name W b1)
  have c1 := Lib.hid (bytesOf_c1 m.major hD1)
  have c2 := Lib.hid (bytesOf_c1 m.minor hD2)
  have c3 := Lib.hid (bytesOf_c2 m.text.size hD3)
  have c4 := Lib.hid (bytesOf_c1 m.ex.length hD4)
  rw [← hN] at cN
  have HENC := Lib.hid (show encMod m = P1 ++ m.ex.flatMap encExp ++ digits m.im.length 1 ++ m.im.flatMap encImp ++ digits m.pa.length 1 ++ m.pa.flatMap encPat by rw [hP1]; rfl)
  have HS5 := Lib.hid hS5
  have A1 := a1.out
  have A2 := a2.out
  have A3 := a3.out
  have A4 := a4.out
  have A5 := a5.out
  clear a1 a2 a3 a4 a5 hw0 hb hm he heA hiA hpA hN hD1 hD2 hD3 hD4 hS1 hS2 hS3 hS4 hS5 hP1
  have HC0 := Lib.hid (show Below w0.heap.size w0 w0 ∧ w0.cell? ⟨w.heap.size, 0, none⟩ = some (.string m.name) ∧ w0.cell? ⟨w.heap.size, 1, none⟩ = some (.int .i64 m.major) ∧ w0.cell? ⟨w.heap.size, 2, none⟩ = some (.int .i64 m.minor) ∧ w0.cell? ⟨w.heap.size, 3, none⟩ = some (.string m.text) ∧ w0.cell? ⟨w.heap.size, 4, none⟩ = some (.slice eA m.ex.length m.eC) from ⟨Below.refl _ _, by assumption, by assumption, by assumption, by assumption, by assumption⟩)
  have HCD := Lib.hid (show ∀ W' : World, (Below w0.heap.size w0 W' ∧ W'.cell? ⟨w.heap.size, 0, none⟩ = some (.string m.name) ∧ W'.cell? ⟨w.heap.size, 1, none⟩ = some (.int .i64 m.major) ∧ W'.cell? ⟨w.heap.size, 2, none⟩ = some (.int .i64 m.minor) ∧ W'.cell? ⟨w.heap.size, 3, none⟩ = some (.string m.text) ∧ W'.cell? ⟨w.heap.size, 4, none⟩ = some (.slice eA m.ex.length m.eC)) → (Below w0.heap.size w0 W'.drew ∧ W'.drew.cell? ⟨w.heap.size, 0, none⟩ = some (.string m.name) ∧ W'.drew.cell? ⟨w.heap.size, 1, none⟩ = some (.int .i64 m.major) ∧ W'.drew.cell? ⟨w.heap.size, 2, none⟩ = some (.int .i64 m.minor) ∧ W'.drew.cell? ⟨w.heap.size, 3, none⟩ = some (.string m.text) ∧ W'.drew.cell? ⟨w.heap.size, 4, none⟩ = some (.slice eA m.ex.length m.eC)) from fun W' ⟨b, a0, a1, a2, a3, a4⟩ => ⟨b.drew, a0, a1, a2, a3, a4⟩)
  have HCS := Lib.hid (show ∀ W' W2 : World, (Below w0.heap.size w0 W' ∧ W'.cell? ⟨w.heap.size, 0, none⟩ = some (.string m.name) ∧ W'.cell? ⟨w.heap.size, 1, none⟩ = some (.int .i64 m.major) ∧ W'.cell? ⟨w.heap.size, 2, none⟩ = some (.int .i64 m.minor) ∧ W'.cell? ⟨w.heap.size, 3, none⟩ = some (.string m.text) ∧ W'.cell? ⟨w.heap.size, 4, none⟩ = some (.slice eA m.ex.length m.eC)) → Below W'.heap.size W' W2 → (Below w0.heap.size w0 W2 ∧ W2.cell? ⟨w.heap.size, 0, none⟩ = some (.string m.name) ∧ W2.cell? ⟨w.heap.size, 1, none⟩ = some (.int .i64 m.major) ∧ W2.cell? ⟨w.heap.size, 2, none⟩ = some (.int .i64 m.minor) ∧ W2.cell? ⟨w.heap.size, 3, none⟩ = some (.string m.text) ∧ W2.cell? ⟨w.heap.size, 4, none⟩ = some (.slice eA m.ex.length m.eC)) from fun W' W2 ⟨b, a0, a1, a2, a3, a4⟩ hb => have s := b.size; ⟨b.trans (hb.mono s), (hb.cell (by first | omega | (simp; omega) | (simp only [block_of_add]; omega))).trans a0, (hb.cell (by first | omega | (simp; omega) | (simp only [block_of_add]; omega))).trans a1, (hb.cell (by first | omega | (simp; omega) | (simp only [block_of_add]; omega))).trans a2, (hb.cell (by first | omega | (simp; omega) | (simp only [block_of_add]; omega))).trans a3, (hb.cell (by first | omega | (simp; omega) | (simp only [block_of_add]; omega))).trans a4⟩)
  have HCA := Lib.hid (show ∀ (W' : World) (o : Obj), (Below w0.heap.size w0 W' ∧ W'.cell? ⟨w.heap.size, 0, none⟩ = some (.string m.name) ∧ W'.cell? ⟨w.heap.size, 1, none⟩ = some (.int .i64 m.major) ∧ W'.cell? ⟨w.heap.size, 2, none⟩ = some (.int .i64 m.minor) ∧ W'.cell? ⟨w.heap.size, 3, none⟩ = some (.string m.text) ∧ W'.cell? ⟨w.heap.size, 4, none⟩ = some (.slice eA m.ex.length m.eC)) → (Below w0.heap.size w0 (W'.alloc o) ∧ (W'.alloc o).cell? ⟨w.heap.size, 0, none⟩ = some (.string m.name) ∧ (W'.alloc o).cell? ⟨w.heap.size, 1, none⟩ = some (.int .i64 m.major) ∧ (W'.alloc o).cell? ⟨w.heap.size, 2, none⟩ = some (.int .i64 m.minor) ∧ (W'.alloc o).cell? ⟨w.heap.size, 3, none⟩ = some (.string m.text) ∧ (W'.alloc o).cell? ⟨w.heap.size, 4, none⟩ = some (.slice eA m.ex.length m.eC)) from fun W' o hc => HCS.out W' (W'.alloc o) hc ((Below.refl _ _).alloc (Nat.le_refl _) o))
  have HCL := Lib.hid (show ∀ W' : World, (Below w0.heap.size w0 W' ∧ W'.cell? ⟨w.heap.size, 0, none⟩ = some (.string m.name) ∧ W'.cell? ⟨w.heap.size, 1, none⟩ = some (.int .i64 m.major) ∧ W'.cell? ⟨w.heap.size, 2, none⟩ = some (.int .i64 m.minor) ∧ W'.cell? ⟨w.heap.size, 3, none⟩ = some (.string m.text) ∧ W'.cell? ⟨w.heap.size, 4, none⟩ = some (.slice eA m.ex.length m.eC)) → Below w0.heap.size w0 W' from fun W' hc => hc.1)
  go_enter Try.func33, Try.ntmps33
  go_wp2_with fail
  go_region_held3 (fun W' => Below w0.heap.size w0 W' ∧ W'.cell? ⟨w.heap.size, 0, none⟩ = some (.string m.name) ∧ W'.cell? ⟨w.heap.size, 1, none⟩ = some (.int .i64 m.major) ∧ W'.cell? ⟨w.heap.size, 2, none⟩ = some (.int .i64 m.minor) ∧ W'.cell? ⟨w.heap.size, 3, none⟩ = some (.string m.text) ∧ W'.cell? ⟨w.heap.size, 4, none⟩ = some (.slice eA m.ex.length m.eC)) (first | exact HC0.out | exact HCD.out _ HC0.out | exact HCS.out _ _ (by assumption) (by assumption) | exact HCS.out _ _ HC0.out (by assumption) | exact HCS.out _ _ (HCD.out _ HC0.out) (by assumption) | exact HCS.out _ _ (HCD.out _ (by assumption)) (by assumption) | exact HCD.out _ (by assumption) | exact HCA.out _ _ (by assumption) | exact HCA.out _ _ HC0.out | exact HCA.out _ _ (HCD.out _ HC0.out) | exact HCD.out _ (HCA.out _ _ (by assumption)) | assumption) (first | (go_at_call 67; refine (cN.out _).mono ?_; rintro e w2 ⟨rfl, hb2⟩) | (go_at_call 68; (first | with_reducible refine (c1.out _).mono ?_ | with_reducible refine (c2.out _).mono ?_ | with_reducible refine (c3.out _).mono ?_ | with_reducible refine (c4.out _).mono ?_); rintro e w2 ⟨rfl, hb2⟩))
  have B5 := Lib.hid (HCL.out _ (by assumption))
  clear HC0 HCD HCS HCA HCL cN c1 c2 c3 c4 A1 A2 A3 A4 A5
  go_wp2_with fail
  go_loopw [3, 4] (fun v i wr => ∃ (j : Nat), j ≤ m.ex.length ∧ i = .int .i64 j ∧ v = .string (bs (P1 ++ (m.ex.take j).flatMap encExp)) ∧ Below w0.heap.size w0 wr) (fun _ i _ => m.ex.length - (intOf i).toNat)
  case atStart => exact ⟨0, by omega, rfl, by rw [HS5.out]; simp, B5.out⟩
  case round =>
    obtain ⟨j, hj, rfl, rfl, hb⟩ := hrel
    have HB := Lib.hid hb
    have hwz := hb.size
    have HX := Lib.hid (show Below w.heap.size w wr from H0.out.trans (hb.mono (by omega)))
    have r4 := (hb.cell (p := ⟨w.heap.size, 4, none⟩) (by simp; omega)).trans e4
    have hfl := flat_le (f := encExp) (K := 13) (l := m.ex.take (j + 1)) (fun x hx => b6 x (List.mem_of_mem_take hx))
    rw [List.length_take] at hfl
    obtain ⟨S, hS⟩ : ∃ S, S = bs (P1 ++ (m.ex.take j).flatMap encExp) := ⟨_, rfl⟩
    rw [← hS]
    by_cases hlt : j < m.ex.length
    · have hlt' : (j : Int) < m.ex.length := by omega
      obtain ⟨ad, ead, hab, h0, h1⟩ := exp_at HM.out.ex.1 HX.out j hlt
      obtain rfl : eA = some ad := HEA.out.trans ead
      have hE := flat_take (f := encExp) hlt
      have hx := b6 (m.ex[j]'hlt) (List.getElem_mem _)
      obtain ⟨x, hxx⟩ : ∃ x, x = m.ex[j]'hlt := ⟨_, rfl⟩
      rw [← hxx] at h0 h1 hE hx
      rw [encExp_length] at hx
      obtain ⟨T, hT⟩ : ∃ S, S = bs (P1 ++ (m.ex.take (j + 1)).flatMap encExp) := ⟨_, rfl⟩
      obtain ⟨N, hN⟩ : ∃ S, S = bs (encName x.name) := ⟨_, rfl⟩
      obtain ⟨D, hD⟩ : ∃ S, S = bs (digits x.at_ 2) := ⟨_, rfl⟩
      obtain ⟨E, hEE⟩ : ∃ S, S = bs (encExp x) := ⟨_, rfl⟩
      have A1 := add_ba (A := N) (B := D) (S := E) (by rw [hN, hD, hEE]; rfl) (by rw [hEE]; show (encExp x).length ≤ _; rw [encExp_length]; omega)
      have A2 := add_ba (A := S) (B := E) (S := T) (by rw [hS, hEE, hT, hE]; simp) (by rw [hT]; show (P1 ++ _).length ≤ _; rw [List.length_append]; omega)
      have cN := Lib.hid (fun W => nameBytes_any x.name W (by omega))
      have cD := Lib.hid (bytesOf_c2 x.at_ hD)
      rw [← hN] at cN
      have HT := Lib.hid hT
      have hbm : (ad.add (j * 2)).block < wr.heap.size := by rw [block_of_add]; have := HX.out.size; omega
      have hbw : w.heap.size < wr.heap.size := by omega
      clear hb hfl hE hx hxx hT hN hD hEE hS ead
      have HC0 := Lib.hid (show Below wr.heap.size wr wr ∧ wr.cell? ⟨w.heap.size, 4, none⟩ = some (.slice (some ad) m.ex.length m.eC) ∧ wr.cell? (ad.add (j * 2)) = some (.string x.name) ∧ wr.cell? ⟨(ad.add (j * 2)).block, (ad.add (j * 2)).off + 1, none⟩ = some (.int .i64 x.at_) from ⟨Below.refl _ _, by assumption, by assumption, by assumption⟩)
      have HCD := Lib.hid (show ∀ W' : World, (Below wr.heap.size wr W' ∧ W'.cell? ⟨w.heap.size, 4, none⟩ = some (.slice (some ad) m.ex.length m.eC) ∧ W'.cell? (ad.add (j * 2)) = some (.string x.name) ∧ W'.cell? ⟨(ad.add (j * 2)).block, (ad.add (j * 2)).off + 1, none⟩ = some (.int .i64 x.at_)) → (Below wr.heap.size wr W'.drew ∧ W'.drew.cell? ⟨w.heap.size, 4, none⟩ = some (.slice (some ad) m.ex.length m.eC) ∧ W'.drew.cell? (ad.add (j * 2)) = some (.string x.name) ∧ W'.drew.cell? ⟨(ad.add (j * 2)).block, (ad.add (j * 2)).off + 1, none⟩ = some (.int .i64 x.at_)) from fun W' ⟨b, a0, a1, a2⟩ => ⟨b.drew, a0, a1, a2⟩)
      have HCS := Lib.hid (show ∀ W' W2 : World, (Below wr.heap.size wr W' ∧ W'.cell? ⟨w.heap.size, 4, none⟩ = some (.slice (some ad) m.ex.length m.eC) ∧ W'.cell? (ad.add (j * 2)) = some (.string x.name) ∧ W'.cell? ⟨(ad.add (j * 2)).block, (ad.add (j * 2)).off + 1, none⟩ = some (.int .i64 x.at_)) → Below W'.heap.size W' W2 → (Below wr.heap.size wr W2 ∧ W2.cell? ⟨w.heap.size, 4, none⟩ = some (.slice (some ad) m.ex.length m.eC) ∧ W2.cell? (ad.add (j * 2)) = some (.string x.name) ∧ W2.cell? ⟨(ad.add (j * 2)).block, (ad.add (j * 2)).off + 1, none⟩ = some (.int .i64 x.at_)) from fun W' W2 ⟨b, a0, a1, a2⟩ hb => have s := b.size; ⟨b.trans (hb.mono s), (hb.cell (by first | omega | (simp; omega) | (simp only [block_of_add]; omega))).trans a0, (hb.cell (by first | omega | (simp; omega) | (simp only [block_of_add]; omega))).trans a1, (hb.cell (by first | omega | (simp; omega) | (simp only [block_of_add]; omega))).trans a2⟩)
      have HCA := Lib.hid (show ∀ (W' : World) (o : Obj), (Below wr.heap.size wr W' ∧ W'.cell? ⟨w.heap.size, 4, none⟩ = some (.slice (some ad) m.ex.length m.eC) ∧ W'.cell? (ad.add (j * 2)) = some (.string x.name) ∧ W'.cell? ⟨(ad.add (j * 2)).block, (ad.add (j * 2)).off + 1, none⟩ = some (.int .i64 x.at_)) → (Below wr.heap.size wr (W'.alloc o) ∧ (W'.alloc o).cell? ⟨w.heap.size, 4, none⟩ = some (.slice (some ad) m.ex.length m.eC) ∧ (W'.alloc o).cell? (ad.add (j * 2)) = some (.string x.name) ∧ (W'.alloc o).cell? ⟨(ad.add (j * 2)).block, (ad.add (j * 2)).off + 1, none⟩ = some (.int .i64 x.at_)) from fun W' o hc => HCS.out W' (W'.alloc o) hc ((Below.refl _ _).alloc (Nat.le_refl _) o))
      have HCL := Lib.hid (show ∀ W' : World, (Below wr.heap.size wr W' ∧ W'.cell? ⟨w.heap.size, 4, none⟩ = some (.slice (some ad) m.ex.length m.eC) ∧ W'.cell? (ad.add (j * 2)) = some (.string x.name) ∧ W'.cell? ⟨(ad.add (j * 2)).block, (ad.add (j * 2)).off + 1, none⟩ = some (.int .i64 x.at_)) → Below wr.heap.size wr W' from fun W' hc => hc.1)
      go_wp2_with fail
      go_region_held3 (fun W' => Below wr.heap.size wr W' ∧ W'.cell? ⟨w.heap.size, 4, none⟩ = some (.slice (some ad) m.ex.length m.eC) ∧ W'.cell? (ad.add (j * 2)) = some (.string x.name) ∧ W'.cell? ⟨(ad.add (j * 2)).block, (ad.add (j * 2)).off + 1, none⟩ = some (.int .i64 x.at_)) (first | exact HC0.out | exact HCD.out _ HC0.out | exact HCS.out _ _ (by assumption) (by assumption) | exact HCS.out _ _ HC0.out (by assumption) | exact HCS.out _ _ (HCD.out _ HC0.out) (by assumption) | exact HCS.out _ _ (HCD.out _ (by assumption)) (by assumption) | exact HCD.out _ (by assumption) | exact HCA.out _ _ (by assumption) | exact HCA.out _ _ HC0.out | exact HCA.out _ _ (HCD.out _ HC0.out) | exact HCD.out _ (HCA.out _ _ (by assumption)) | assumption) (first | (go_at_call 67; with_reducible refine (cN.out _).mono ?_; rintro e w2 ⟨rfl, hb2⟩) | (go_at_call 68; with_reducible refine (cD.out _).mono ?_; rintro e w2 ⟨rfl, hb2⟩))
      have B6 := Lib.hid (HCL.out _ (by assumption))
      clear HC0 HCD HCS HCA HCL cN cD A1 A2
      go_wp2_with fail
      go_roundw
      case rel => exact ⟨j + 1, by omega, by go_num, by rw [HT.out], HB.out.trans (B6.out.mono hwz)⟩
      case measure => (simp [intOf]; try omega)
    · have e0' : m.ex.take j = m.ex := List.take_of_length_le (by omega)
      rw [e0'] at hS
      have hfl9 := flat_le (f := encExp) (K := 13) (l := m.ex) b6
      obtain ⟨P2, hP2⟩ : ∃ P2, P2 = P1 ++ m.ex.flatMap encExp ++ digits m.im.length 1 := ⟨_, rfl⟩
      have hP2l : P2.length ≤ 400 := by rw [hP2, List.length_append, List.length_append, digits_length]; omega
      obtain ⟨D, hD⟩ : ∃ S, S = bs (digits m.im.length 1) := ⟨_, rfl⟩
      obtain ⟨T, hT⟩ : ∃ S, S = bs P2 := ⟨_, rfl⟩
      have A1 := add_ba (A := S) (B := D) (S := T) (by rw [hS, hD, hT, hP2]) (by rw [hT]; show P2.length ≤ _; omega)
      have cD := Lib.hid (bytesOf_c1 m.im.length hD)
      have r5 := (hb.cell (p := ⟨w.heap.size, 5, none⟩) (by simp; omega)).trans e5
      rw [← hP2] at HENC
      have HT := Lib.hid hT
      clear e0' hfl hb hS hD hT hP2 hfl9
      go_wp2_with (go_at_call 68; with_reducible refine (cD.out _).mono ?_; rintro e w2 ⟨rfl, hb2⟩; have B7 := Lib.hid (HB.out.trans (hb2.mono hwz)))
      go_loopw [3, 5] (fun v i wr => ∃ (j : Nat), j ≤ m.im.length ∧ i = .int .i64 j ∧ v = .string (bs (P2 ++ (m.im.take j).flatMap encImp)) ∧ Below w0.heap.size w0 wr) (fun _ i _ => m.im.length - (intOf i).toNat)
      case atStart => exact ⟨0, by omega, rfl, by rw [HT.out]; simp, B7.out⟩
      clear A1 cD HB r5 B7 HX r4
      case round =>
        obtain ⟨j, hj, rfl, rfl, hb⟩ := hrel
        have HB := Lib.hid hb
        have hwz := hb.size
        have HX := Lib.hid (show Below w.heap.size w wr from H0.out.trans (hb.mono (by omega)))
        have r5 := (hb.cell (p := ⟨w.heap.size, 5, none⟩) (by simp; omega)).trans e5
        have hfl := flat_le (f := encImp) (K := 24) (l := m.im.take (j + 1)) (fun x hx => b7 x (List.mem_of_mem_take hx))
        rw [List.length_take] at hfl
        obtain ⟨S, hS⟩ : ∃ S, S = bs (P2 ++ (m.im.take j).flatMap encImp) := ⟨_, rfl⟩
        rw [← hS]
        by_cases hlt : j < m.im.length
        · have hlt' : (j : Int) < m.im.length := by omega
          obtain ⟨ad, ead, hab, h0, h1, h2, h3⟩ := imp_at HM.out.im.1 HX.out j hlt
          obtain rfl : iA = some ad := HIA.out.trans ead
          have hE := flat_take (f := encImp) hlt
          have hx := impErr_ok (impsErr_ok (modErr_facts HE0.out).2.2.2.2.2.2.2.2.2.1 (m.im[j]'hlt) (List.getElem_mem _))
          obtain ⟨x, hxx⟩ : ∃ x, x = m.im[j]'hlt := ⟨_, rfl⟩
          rw [← hxx] at h0 h1 h2 h3 hE hx
          have z1 := isName_size hx.1
          have z2 := isName_size hx.2.1
          obtain ⟨T, hT⟩ : ∃ S, S = bs (P2 ++ (m.im.take (j + 1)).flatMap encImp) := ⟨_, rfl⟩
          obtain ⟨N1, hN1⟩ : ∃ S, S = bs (encName x.mod) := ⟨_, rfl⟩
          obtain ⟨N2, hN2⟩ : ∃ S, S = bs (encName x.name) := ⟨_, rfl⟩
          obtain ⟨D1, hD1⟩ : ∃ S, S = bs (digits x.major 1) := ⟨_, rfl⟩
          obtain ⟨D2, hD2⟩ : ∃ S, S = bs (digits x.minor 1) := ⟨_, rfl⟩
          obtain ⟨E1, hE1⟩ : ∃ S, S = bs (encName x.mod ++ encName x.name) := ⟨_, rfl⟩
          obtain ⟨E2, hE2⟩ : ∃ S, S = bs (encName x.mod ++ encName x.name ++ digits x.major 1) := ⟨_, rfl⟩
          obtain ⟨E, hEE⟩ : ∃ S, S = bs (encImp x) := ⟨_, rfl⟩
          have hEl : (encImp x).length ≤ 24 := by rw [encImp_length]; omega
          have A1 := add_ba (A := N1) (B := N2) (S := E1) (by rw [hN1, hN2, hE1]) (by rw [hE1]; show (encName x.mod ++ encName x.name).length ≤ _; rw [List.length_append, encName_length, encName_length]; omega)
          have A2 := add_ba (A := E1) (B := D1) (S := E2) (by rw [hE1, hD1, hE2]) (by rw [hE2]; show (encName x.mod ++ encName x.name ++ digits x.major 1).length ≤ _; rw [List.length_append, List.length_append, encName_length, encName_length, digits_length]; omega)
          have A3 := add_ba (A := E2) (B := D2) (S := E) (by rw [hE2, hD2, hEE]; rfl) (by rw [hEE]; show (encImp x).length ≤ _; omega)
          have A4 := add_ba (A := S) (B := E) (S := T) (by rw [hS, hEE, hT, hE]; simp) (by rw [hT]; show (P2 ++ _).length ≤ _; rw [List.length_append]; omega)
          have cN1 := Lib.hid (fun W => nameBytes_any x.mod W z1)
          have cN2 := Lib.hid (fun W => nameBytes_any x.name W z2)
          have cD1 := Lib.hid (bytesOf_c1 x.major hD1)
          have cD2 := Lib.hid (bytesOf_c1 x.minor hD2)
          rw [← hN1] at cN1
          rw [← hN2] at cN2
          have HT := Lib.hid hT
          obtain ⟨wx, hwx⟩ : ∃ wx, wx = wr.alloc (.cells #[.string x.mod, .string x.name, .int .i64 x.major, .int .i64 x.minor] 52) := ⟨_, rfl⟩
          obtain ⟨x0, x1, x2, x3, hzx, hbx⟩ := box4 hwx
          have hwx' := hwx.symm
          have hbw : wr.heap.size < wx.heap.size := by omega
          have BX := Lib.hid (HB.out.trans (hbx.mono hwz))
          have hwzx : w0.heap.size ≤ wx.heap.size := by omega
          clear hb hfl hE hx hxx hT hN1 hN2 hD1 hD2 hE1 hE2 hEE hS ead hwx hzx hbx z1 z2 hEl
          have HC0 := Lib.hid (show Below wx.heap.size wx wx ∧ wx.cell? ⟨wr.heap.size, 0, none⟩ = some (.string x.mod) ∧ wx.cell? ⟨wr.heap.size, 1, none⟩ = some (.string x.name) ∧ wx.cell? ⟨wr.heap.size, 2, none⟩ = some (.int .i64 x.major) ∧ wx.cell? ⟨wr.heap.size, 3, none⟩ = some (.int .i64 x.minor) from ⟨Below.refl _ _, by assumption, by assumption, by assumption, by assumption⟩)
          have HCD := Lib.hid (show ∀ W' : World, (Below wx.heap.size wx W' ∧ W'.cell? ⟨wr.heap.size, 0, none⟩ = some (.string x.mod) ∧ W'.cell? ⟨wr.heap.size, 1, none⟩ = some (.string x.name) ∧ W'.cell? ⟨wr.heap.size, 2, none⟩ = some (.int .i64 x.major) ∧ W'.cell? ⟨wr.heap.size, 3, none⟩ = some (.int .i64 x.minor)) → (Below wx.heap.size wx W'.drew ∧ W'.drew.cell? ⟨wr.heap.size, 0, none⟩ = some (.string x.mod) ∧ W'.drew.cell? ⟨wr.heap.size, 1, none⟩ = some (.string x.name) ∧ W'.drew.cell? ⟨wr.heap.size, 2, none⟩ = some (.int .i64 x.major) ∧ W'.drew.cell? ⟨wr.heap.size, 3, none⟩ = some (.int .i64 x.minor)) from fun W' ⟨b, a0, a1, a2, a3⟩ => ⟨b.drew, a0, a1, a2, a3⟩)
          have HCS := Lib.hid (show ∀ W' W2 : World, (Below wx.heap.size wx W' ∧ W'.cell? ⟨wr.heap.size, 0, none⟩ = some (.string x.mod) ∧ W'.cell? ⟨wr.heap.size, 1, none⟩ = some (.string x.name) ∧ W'.cell? ⟨wr.heap.size, 2, none⟩ = some (.int .i64 x.major) ∧ W'.cell? ⟨wr.heap.size, 3, none⟩ = some (.int .i64 x.minor)) → Below W'.heap.size W' W2 → (Below wx.heap.size wx W2 ∧ W2.cell? ⟨wr.heap.size, 0, none⟩ = some (.string x.mod) ∧ W2.cell? ⟨wr.heap.size, 1, none⟩ = some (.string x.name) ∧ W2.cell? ⟨wr.heap.size, 2, none⟩ = some (.int .i64 x.major) ∧ W2.cell? ⟨wr.heap.size, 3, none⟩ = some (.int .i64 x.minor)) from fun W' W2 ⟨b, a0, a1, a2, a3⟩ hb => have s := b.size; ⟨b.trans (hb.mono s), (hb.cell (by first | omega | (simp; omega) | (simp only [block_of_add]; omega))).trans a0, (hb.cell (by first | omega | (simp; omega) | (simp only [block_of_add]; omega))).trans a1, (hb.cell (by first | omega | (simp; omega) | (simp only [block_of_add]; omega))).trans a2, (hb.cell (by first | omega | (simp; omega) | (simp only [block_of_add]; omega))).trans a3⟩)
          have HCA := Lib.hid (show ∀ (W' : World) (o : Obj), (Below wx.heap.size wx W' ∧ W'.cell? ⟨wr.heap.size, 0, none⟩ = some (.string x.mod) ∧ W'.cell? ⟨wr.heap.size, 1, none⟩ = some (.string x.name) ∧ W'.cell? ⟨wr.heap.size, 2, none⟩ = some (.int .i64 x.major) ∧ W'.cell? ⟨wr.heap.size, 3, none⟩ = some (.int .i64 x.minor)) → (Below wx.heap.size wx (W'.alloc o) ∧ (W'.alloc o).cell? ⟨wr.heap.size, 0, none⟩ = some (.string x.mod) ∧ (W'.alloc o).cell? ⟨wr.heap.size, 1, none⟩ = some (.string x.name) ∧ (W'.alloc o).cell? ⟨wr.heap.size, 2, none⟩ = some (.int .i64 x.major) ∧ (W'.alloc o).cell? ⟨wr.heap.size, 3, none⟩ = some (.int .i64 x.minor)) from fun W' o hc => HCS.out W' (W'.alloc o) hc ((Below.refl _ _).alloc (Nat.le_refl _) o))
          have HCL := Lib.hid (show ∀ W' : World, (Below wx.heap.size wx W' ∧ W'.cell? ⟨wr.heap.size, 0, none⟩ = some (.string x.mod) ∧ W'.cell? ⟨wr.heap.size, 1, none⟩ = some (.string x.name) ∧ W'.cell? ⟨wr.heap.size, 2, none⟩ = some (.int .i64 x.major) ∧ W'.cell? ⟨wr.heap.size, 3, none⟩ = some (.int .i64 x.minor)) → Below wx.heap.size wx W' from fun W' hc => hc.1)
          go_wp2_with fail
          go_region_held3 (fun W' => Below wx.heap.size wx W' ∧ W'.cell? ⟨wr.heap.size, 0, none⟩ = some (.string x.mod) ∧ W'.cell? ⟨wr.heap.size, 1, none⟩ = some (.string x.name) ∧ W'.cell? ⟨wr.heap.size, 2, none⟩ = some (.int .i64 x.major) ∧ W'.cell? ⟨wr.heap.size, 3, none⟩ = some (.int .i64 x.minor)) (first | exact HC0.out | exact HCD.out _ HC0.out | exact HCS.out _ _ (by assumption) (by assumption) | exact HCS.out _ _ HC0.out (by assumption) | exact HCS.out _ _ (HCD.out _ HC0.out) (by assumption) | exact HCS.out _ _ (HCD.out _ (by assumption)) (by assumption) | exact HCD.out _ (by assumption) | exact HCA.out _ _ (by assumption) | exact HCA.out _ _ HC0.out | exact HCA.out _ _ (HCD.out _ HC0.out) | exact HCD.out _ (HCA.out _ _ (by assumption)) | assumption) (first | (go_at_call 67; (first | with_reducible refine (cN1.out _).mono ?_ | with_reducible refine (cN2.out _).mono ?_); rintro e w2 ⟨rfl, hb2⟩) | (go_at_call 68; (first | with_reducible refine (cD1.out _).mono ?_ | with_reducible refine (cD2.out _).mono ?_); rintro e w2 ⟨rfl, hb2⟩))
          have B6 := Lib.hid (HCL.out _ (by assumption))
          clear HC0 HCD HCS HCA HCL cN1 cN2 cD1 cD2 A1 A2 A3 A4
          go_wp2_with fail
          go_roundw
          case rel => exact ⟨j + 1, by omega, by go_num, by rw [HT.out], BX.out.trans (B6.out.mono hwzx)⟩
          case measure => (simp [intOf]; try omega)
        · have e0' : m.im.take j = m.im := List.take_of_length_le (by omega)
          rw [e0'] at hS
          have hfl9 := flat_le (f := encImp) (K := 24) (l := m.im) b7
          obtain ⟨P3, hP3⟩ : ∃ P3, P3 = P2 ++ m.im.flatMap encImp ++ digits m.pa.length 1 := ⟨_, rfl⟩
          have hP3l : P3.length ≤ 600 := by rw [hP3, List.length_append, List.length_append, digits_length]; omega
          obtain ⟨D, hD⟩ : ∃ S, S = bs (digits m.pa.length 1) := ⟨_, rfl⟩
          obtain ⟨T, hT⟩ : ∃ S, S = bs P3 := ⟨_, rfl⟩
          have A1 := add_ba (A := S) (B := D) (S := T) (by rw [hS, hD, hT, hP3]) (by rw [hT]; show P3.length ≤ _; omega)
          have cD := Lib.hid (bytesOf_c1 m.pa.length hD)
          have r6 := (hb.cell (p := ⟨w.heap.size, 6, none⟩) (by simp; omega)).trans e6
          rw [← hP3] at HENC
          have HT := Lib.hid hT
          clear e0' hfl hb hS hD hT hP3 hfl9
          go_wp2_with (go_at_call 68; with_reducible refine (cD.out _).mono ?_; rintro e w2 ⟨rfl, hb2⟩; have B7 := Lib.hid (HB.out.trans (hb2.mono hwz)))
          go_loopw [3, 7] (fun v i wr => ∃ (j : Nat), j ≤ m.pa.length ∧ i = .int .i64 j ∧ v = .string (bs (P3 ++ (m.pa.take j).flatMap encPat)) ∧ Below w0.heap.size w0 wr) (fun _ i _ => m.pa.length - (intOf i).toNat)
          case atStart => exact ⟨0, by omega, rfl, by rw [HT.out]; simp, B7.out⟩
          clear A1 cD HB r6 B7 HX r5
          case round =>
            obtain ⟨j, hj, rfl, rfl, hb⟩ := hrel
            have HB := Lib.hid hb
            have hwz := hb.size
            have HX := Lib.hid (show Below w.heap.size w wr from H0.out.trans (hb.mono (by omega)))
            have r6 := (hb.cell (p := ⟨w.heap.size, 6, none⟩) (by simp; omega)).trans e6
            have hfl := flat_le (f := encPat) (K := 6) (l := m.pa.take (j + 1)) (fun x _ => by rw [encPat_length]; omega)
            rw [List.length_take] at hfl
            obtain ⟨S, hS⟩ : ∃ S, S = bs (P3 ++ (m.pa.take j).flatMap encPat) := ⟨_, rfl⟩
            rw [← hS]
            by_cases hlt : j < m.pa.length
            · have hlt' : (j : Int) < m.pa.length := by omega
              obtain ⟨ad, ead, hab, h0, h1, h2, h3⟩ := pat_at HM.out.pa.1 HX.out j hlt
              obtain rfl : pA = some ad := HPA.out.trans ead
              have hE := flat_take (f := encPat) hlt
              have hx := pats_sym HE0.out (m.pa[j]'hlt) (List.getElem_mem _)
              obtain ⟨x, hxx⟩ : ∃ x, x = m.pa[j]'hlt := ⟨_, rfl⟩
              rw [← hxx] at h0 h1 h2 h3 hE hx
              obtain ⟨T, hT⟩ : ∃ S, S = bs (P3 ++ (m.pa.take (j + 1)).flatMap encPat) := ⟨_, rfl⟩
              obtain ⟨Y, hY⟩ : ∃ Y, Y = x.sym + 1 := ⟨_, rfl⟩
              have q1 : IntKind.i64.wrap (x.sym + 1) = Y := by rw [hY]; exact IntWalk.i64_in _ (by omega)
              obtain ⟨D1, hD1⟩ : ∃ S, S = bs (digits x.kind 1) := ⟨_, rfl⟩
              obtain ⟨D2, hD2⟩ : ∃ S, S = bs (digits x.at_ 2) := ⟨_, rfl⟩
              obtain ⟨D3, hD3⟩ : ∃ S, S = bs (digits Y 1) := ⟨_, rfl⟩
              obtain ⟨D4, hD4⟩ : ∃ S, S = bs (digits x.add 2) := ⟨_, rfl⟩
              obtain ⟨E1, hE1⟩ : ∃ S, S = bs (digits x.kind 1 ++ digits x.at_ 2) := ⟨_, rfl⟩
              obtain ⟨E2, hE2⟩ : ∃ S, S = bs (digits x.kind 1 ++ digits x.at_ 2 ++ digits Y 1) := ⟨_, rfl⟩
              obtain ⟨E, hEE⟩ : ∃ S, S = bs (encPat x) := ⟨_, rfl⟩
              have A1 := add_ba (A := D1) (B := D2) (S := E1) (by rw [hD1, hD2, hE1]) (by rw [hE1]; show (digits x.kind 1 ++ digits x.at_ 2).length ≤ _; rw [List.length_append, digits_length, digits_length]; omega)
              have A2 := add_ba (A := E1) (B := D3) (S := E2) (by rw [hE1, hD3, hE2]) (by rw [hE2]; show (digits x.kind 1 ++ digits x.at_ 2 ++ digits Y 1).length ≤ _; rw [List.length_append, List.length_append, digits_length, digits_length, digits_length]; omega)
              have A3 := add_ba (A := E2) (B := D4) (S := E) (by rw [hE2, hD4, hEE, hY]; rfl) (by rw [hEE]; show (encPat x).length ≤ _; rw [encPat_length]; omega)
              have A4 := add_ba (A := S) (B := E) (S := T) (by rw [hS, hEE, hT, hE]; simp) (by rw [hT]; show (P3 ++ _).length ≤ _; rw [List.length_append]; omega)
              have cD1 := Lib.hid (bytesOf_c1 x.kind hD1)
              have cD2 := Lib.hid (bytesOf_c2 x.at_ hD2)
              have cD3 := Lib.hid (bytesOf_c1 Y hD3)
              have cD4 := Lib.hid (bytesOf_c2 x.add hD4)
              have HT := Lib.hid hT
              obtain ⟨wx, hwx⟩ : ∃ wx, wx = wr.alloc (.cells #[.int .i64 x.kind, .int .i64 x.at_, .int .i64 x.sym, .int .i64 x.add] 75) := ⟨_, rfl⟩
              obtain ⟨x0, x1, x2, x3, hzx, hbx⟩ := box4 hwx
              have hwx' := hwx.symm
              have hbw : wr.heap.size < wx.heap.size := by omega
              have BX := Lib.hid (HB.out.trans (hbx.mono hwz))
              have hwzx : w0.heap.size ≤ wx.heap.size := by omega
              clear hb hfl hE hx hxx hT hD1 hD2 hD3 hD4 hE1 hE2 hEE hS ead hwx hzx hbx hY
              have HC0 := Lib.hid (show Below wx.heap.size wx wx ∧ wx.cell? ⟨wr.heap.size, 0, none⟩ = some (.int .i64 x.kind) ∧ wx.cell? ⟨wr.heap.size, 1, none⟩ = some (.int .i64 x.at_) ∧ wx.cell? ⟨wr.heap.size, 2, none⟩ = some (.int .i64 x.sym) ∧ wx.cell? ⟨wr.heap.size, 3, none⟩ = some (.int .i64 x.add) from ⟨Below.refl _ _, by assumption, by assumption, by assumption, by assumption⟩)
              have HCD := Lib.hid (show ∀ W' : World, (Below wx.heap.size wx W' ∧ W'.cell? ⟨wr.heap.size, 0, none⟩ = some (.int .i64 x.kind) ∧ W'.cell? ⟨wr.heap.size, 1, none⟩ = some (.int .i64 x.at_) ∧ W'.cell? ⟨wr.heap.size, 2, none⟩ = some (.int .i64 x.sym) ∧ W'.cell? ⟨wr.heap.size, 3, none⟩ = some (.int .i64 x.add)) → (Below wx.heap.size wx W'.drew ∧ W'.drew.cell? ⟨wr.heap.size, 0, none⟩ = some (.int .i64 x.kind) ∧ W'.drew.cell? ⟨wr.heap.size, 1, none⟩ = some (.int .i64 x.at_) ∧ W'.drew.cell? ⟨wr.heap.size, 2, none⟩ = some (.int .i64 x.sym) ∧ W'.drew.cell? ⟨wr.heap.size, 3, none⟩ = some (.int .i64 x.add)) from fun W' ⟨b, a0, a1, a2, a3⟩ => ⟨b.drew, a0, a1, a2, a3⟩)
              have HCS := Lib.hid (show ∀ W' W2 : World, (Below wx.heap.size wx W' ∧ W'.cell? ⟨wr.heap.size, 0, none⟩ = some (.int .i64 x.kind) ∧ W'.cell? ⟨wr.heap.size, 1, none⟩ = some (.int .i64 x.at_) ∧ W'.cell? ⟨wr.heap.size, 2, none⟩ = some (.int .i64 x.sym) ∧ W'.cell? ⟨wr.heap.size, 3, none⟩ = some (.int .i64 x.add)) → Below W'.heap.size W' W2 → (Below wx.heap.size wx W2 ∧ W2.cell? ⟨wr.heap.size, 0, none⟩ = some (.int .i64 x.kind) ∧ W2.cell? ⟨wr.heap.size, 1, none⟩ = some (.int .i64 x.at_) ∧ W2.cell? ⟨wr.heap.size, 2, none⟩ = some (.int .i64 x.sym) ∧ W2.cell? ⟨wr.heap.size, 3, none⟩ = some (.int .i64 x.add)) from fun W' W2 ⟨b, a0, a1, a2, a3⟩ hb => have s := b.size; ⟨b.trans (hb.mono s), (hb.cell (by first | omega | (simp; omega) | (simp only [block_of_add]; omega))).trans a0, (hb.cell (by first | omega | (simp; omega) | (simp only [block_of_add]; omega))).trans a1, (hb.cell (by first | omega | (simp; omega) | (simp only [block_of_add]; omega))).trans a2, (hb.cell (by first | omega | (simp; omega) | (simp only [block_of_add]; omega))).trans a3⟩)
              have HCA := Lib.hid (show ∀ (W' : World) (o : Obj), (Below wx.heap.size wx W' ∧ W'.cell? ⟨wr.heap.size, 0, none⟩ = some (.int .i64 x.kind) ∧ W'.cell? ⟨wr.heap.size, 1, none⟩ = some (.int .i64 x.at_) ∧ W'.cell? ⟨wr.heap.size, 2, none⟩ = some (.int .i64 x.sym) ∧ W'.cell? ⟨wr.heap.size, 3, none⟩ = some (.int .i64 x.add)) → (Below wx.heap.size wx (W'.alloc o) ∧ (W'.alloc o).cell? ⟨wr.heap.size, 0, none⟩ = some (.int .i64 x.kind) ∧ (W'.alloc o).cell? ⟨wr.heap.size, 1, none⟩ = some (.int .i64 x.at_) ∧ (W'.alloc o).cell? ⟨wr.heap.size, 2, none⟩ = some (.int .i64 x.sym) ∧ (W'.alloc o).cell? ⟨wr.heap.size, 3, none⟩ = some (.int .i64 x.add)) from fun W' o hc => HCS.out W' (W'.alloc o) hc ((Below.refl _ _).alloc (Nat.le_refl _) o))
              have HCL := Lib.hid (show ∀ W' : World, (Below wx.heap.size wx W' ∧ W'.cell? ⟨wr.heap.size, 0, none⟩ = some (.int .i64 x.kind) ∧ W'.cell? ⟨wr.heap.size, 1, none⟩ = some (.int .i64 x.at_) ∧ W'.cell? ⟨wr.heap.size, 2, none⟩ = some (.int .i64 x.sym) ∧ W'.cell? ⟨wr.heap.size, 3, none⟩ = some (.int .i64 x.add)) → Below wx.heap.size wx W' from fun W' hc => hc.1)
              go_wp2_with fail
              go_region_held3 (fun W' => Below wx.heap.size wx W' ∧ W'.cell? ⟨wr.heap.size, 0, none⟩ = some (.int .i64 x.kind) ∧ W'.cell? ⟨wr.heap.size, 1, none⟩ = some (.int .i64 x.at_) ∧ W'.cell? ⟨wr.heap.size, 2, none⟩ = some (.int .i64 x.sym) ∧ W'.cell? ⟨wr.heap.size, 3, none⟩ = some (.int .i64 x.add)) (first | exact HC0.out | exact HCD.out _ HC0.out | exact HCS.out _ _ (by assumption) (by assumption) | exact HCS.out _ _ HC0.out (by assumption) | exact HCS.out _ _ (HCD.out _ HC0.out) (by assumption) | exact HCS.out _ _ (HCD.out _ (by assumption)) (by assumption) | exact HCD.out _ (by assumption) | exact HCA.out _ _ (by assumption) | exact HCA.out _ _ HC0.out | exact HCA.out _ _ (HCD.out _ HC0.out) | exact HCD.out _ (HCA.out _ _ (by assumption)) | assumption) (first | (go_at_call 68; (first | with_reducible refine (cD1.out _).mono ?_ | with_reducible refine (cD2.out _).mono ?_ | with_reducible refine (cD3.out _).mono ?_ | with_reducible refine (cD4.out _).mono ?_); rintro e w2 ⟨rfl, hb2⟩))
              have B6 := Lib.hid (HCL.out _ (by assumption))
              clear HC0 HCD HCS HCA HCL cD1 cD2 cD3 cD4 A1 A2 A3 A4
              go_wp2_with fail
              go_roundw
              case rel => exact ⟨j + 1, by omega, by go_num, by rw [HT.out], BX.out.trans (B6.out.mono hwzx)⟩
              case measure => (simp [intOf]; try omega)
            · have e0' : m.pa.take j = m.pa := List.take_of_length_le (by omega)
              rw [e0'] at hS
              have HSF := Lib.hid (show S = bs (encMod m) by rw [hS, HENC.out])
              clear e0' hfl hb hS
              go_wp2_with fail
              go_ret
              exact ⟨by rw [← HSF.out]; rfl, H0.out.trans (HB.out.mono (by omega))⟩

end Go.Proofs.Ytdpacbdejfjkcaa
