import Derived.Test.YtdpacbdejfjkcaaRegPure
import Derived.Test.YtdpacbdejfjkcaaModsW
import Derived.Maps.AppendAt
import Derived.OwnWalk
/- Where there is room (chapter F): region.End, region.Check, and the document's CheckRegions. -/
namespace Go.Proofs.Ytdpacbdejfjkcaa
open Go.RowKit

set_option maxHeartbeats 2000000 in
set_option maxRecDepth 100000 in
theorem End_any (x : Plc) (w : World) (h : x.m.text.size ≤ 256) (h0 : 0 ≤ x.first) (h1 : x.first ≤ 16) :
    Calls Try.prog 79 #[x.v] w fun e w' => e = .returned (.int .i64 (endOf x)) ∧ Below w.heap.size w w' := by
  obtain ⟨w0, hw0⟩ : ∃ w0, w0 = w.alloc (.cells #[.string x.m.name, .int .i64 x.m.major, .int .i64 x.m.minor, .string x.m.text, .slice x.m.eA x.m.ex.length x.m.eC, .slice x.m.iA x.m.im.length x.m.iC, .slice x.m.pA x.m.pa.length x.m.pC, .int .i64 x.first] 46) := ⟨_, rfl⟩
  obtain ⟨e0, e1, e2, e3, e4, e5, e6, e7, hz, hb⟩ := box8 hw0
  have hw0' := hw0.symm
  have hz0 : w.heap.size < w0.heap.size := by omega
  have H0 := Lib.hid hb
  have hm : 0 ≤ manyOf x.m ∧ manyOf x.m ≤ 4 := by unfold manyOf; omega
  have cM := Lib.hid (fun W => Many_any x.m W (by unfold big; omega))
  obtain ⟨M, hM⟩ : ∃ M, M = manyOf x.m := ⟨_, rfl⟩
  have q0 := Lib.hid (show IntKind.i64.wrap (x.first + M) = x.first + M from IntWalk.i64_in _ (by omega))
  have HE := Lib.hid (show x.first + M = endOf x by unfold endOf; rw [hM])
  rw [← hM] at cM
  clear hw0 hb hM hm h h0 h1
  have HC0 := Lib.hid (show Below w0.heap.size w0 w0 ∧ w0.cell? ⟨w.heap.size, 0, none⟩ = some (.string x.m.name) ∧ w0.cell? ⟨w.heap.size, 1, none⟩ = some (.int .i64 x.m.major) ∧ w0.cell? ⟨w.heap.size, 2, none⟩ = some (.int .i64 x.m.minor) ∧ w0.cell? ⟨w.heap.size, 3, none⟩ = some (.string x.m.text) ∧ w0.cell? ⟨w.heap.size, 4, none⟩ = some (.slice x.m.eA x.m.ex.length x.m.eC) ∧ w0.cell? ⟨w.heap.size, 5, none⟩ = some (.slice x.m.iA x.m.im.length x.m.iC) ∧ w0.cell? ⟨w.heap.size, 6, none⟩ = some (.slice x.m.pA x.m.pa.length x.m.pC) ∧ w0.cell? ⟨w.heap.size, 7, none⟩ = some (.int .i64 x.first) from ⟨Below.refl _ _, by assumption, by assumption, by assumption, by assumption, by assumption, by assumption, by assumption, by assumption⟩)
  have HCD := Lib.hid (show ∀ W' : World, (Below w0.heap.size w0 W' ∧ W'.cell? ⟨w.heap.size, 0, none⟩ = some (.string x.m.name) ∧ W'.cell? ⟨w.heap.size, 1, none⟩ = some (.int .i64 x.m.major) ∧ W'.cell? ⟨w.heap.size, 2, none⟩ = some (.int .i64 x.m.minor) ∧ W'.cell? ⟨w.heap.size, 3, none⟩ = some (.string x.m.text) ∧ W'.cell? ⟨w.heap.size, 4, none⟩ = some (.slice x.m.eA x.m.ex.length x.m.eC) ∧ W'.cell? ⟨w.heap.size, 5, none⟩ = some (.slice x.m.iA x.m.im.length x.m.iC) ∧ W'.cell? ⟨w.heap.size, 6, none⟩ = some (.slice x.m.pA x.m.pa.length x.m.pC) ∧ W'.cell? ⟨w.heap.size, 7, none⟩ = some (.int .i64 x.first)) → (Below w0.heap.size w0 W'.drew ∧ W'.drew.cell? ⟨w.heap.size, 0, none⟩ = some (.string x.m.name) ∧ W'.drew.cell? ⟨w.heap.size, 1, none⟩ = some (.int .i64 x.m.major) ∧ W'.drew.cell? ⟨w.heap.size, 2, none⟩ = some (.int .i64 x.m.minor) ∧ W'.drew.cell? ⟨w.heap.size, 3, none⟩ = some (.string x.m.text) ∧ W'.drew.cell? ⟨w.heap.size, 4, none⟩ = some (.slice x.m.eA x.m.ex.length x.m.eC) ∧ W'.drew.cell? ⟨w.heap.size, 5, none⟩ = some (.slice x.m.iA x.m.im.length x.m.iC) ∧ W'.drew.cell? ⟨w.heap.size, 6, none⟩ = some (.slice x.m.pA x.m.pa.length x.m.pC) ∧ W'.drew.cell? ⟨w.heap.size, 7, none⟩ = some (.int .i64 x.first)) from fun W' ⟨b, a0, a1, a2, a3, a4, a5, a6, a7⟩ => ⟨b.drew, a0, a1, a2, a3, a4, a5, a6, a7⟩)
  have HCS := Lib.hid (show ∀ W' W2 : World, (Below w0.heap.size w0 W' ∧ W'.cell? ⟨w.heap.size, 0, none⟩ = some (.string x.m.name) ∧ W'.cell? ⟨w.heap.size, 1, none⟩ = some (.int .i64 x.m.major) ∧ W'.cell? ⟨w.heap.size, 2, none⟩ = some (.int .i64 x.m.minor) ∧ W'.cell? ⟨w.heap.size, 3, none⟩ = some (.string x.m.text) ∧ W'.cell? ⟨w.heap.size, 4, none⟩ = some (.slice x.m.eA x.m.ex.length x.m.eC) ∧ W'.cell? ⟨w.heap.size, 5, none⟩ = some (.slice x.m.iA x.m.im.length x.m.iC) ∧ W'.cell? ⟨w.heap.size, 6, none⟩ = some (.slice x.m.pA x.m.pa.length x.m.pC) ∧ W'.cell? ⟨w.heap.size, 7, none⟩ = some (.int .i64 x.first)) → Below W'.heap.size W' W2 → (Below w0.heap.size w0 W2 ∧ W2.cell? ⟨w.heap.size, 0, none⟩ = some (.string x.m.name) ∧ W2.cell? ⟨w.heap.size, 1, none⟩ = some (.int .i64 x.m.major) ∧ W2.cell? ⟨w.heap.size, 2, none⟩ = some (.int .i64 x.m.minor) ∧ W2.cell? ⟨w.heap.size, 3, none⟩ = some (.string x.m.text) ∧ W2.cell? ⟨w.heap.size, 4, none⟩ = some (.slice x.m.eA x.m.ex.length x.m.eC) ∧ W2.cell? ⟨w.heap.size, 5, none⟩ = some (.slice x.m.iA x.m.im.length x.m.iC) ∧ W2.cell? ⟨w.heap.size, 6, none⟩ = some (.slice x.m.pA x.m.pa.length x.m.pC) ∧ W2.cell? ⟨w.heap.size, 7, none⟩ = some (.int .i64 x.first)) from fun W' W2 ⟨b, a0, a1, a2, a3, a4, a5, a6, a7⟩ hb => have s := b.size; ⟨b.trans (hb.mono s), (hb.cell (by first | omega | (simp; omega) | (simp only [block_of_add]; omega))).trans a0, (hb.cell (by first | omega | (simp; omega) | (simp only [block_of_add]; omega))).trans a1, (hb.cell (by first | omega | (simp; omega) | (simp only [block_of_add]; omega))).trans a2, (hb.cell (by first | omega | (simp; omega) | (simp only [block_of_add]; omega))).trans a3, (hb.cell (by first | omega | (simp; omega) | (simp only [block_of_add]; omega))).trans a4, (hb.cell (by first | omega | (simp; omega) | (simp only [block_of_add]; omega))).trans a5, (hb.cell (by first | omega | (simp; omega) | (simp only [block_of_add]; omega))).trans a6, (hb.cell (by first | omega | (simp; omega) | (simp only [block_of_add]; omega))).trans a7⟩)
  have HCA := Lib.hid (show ∀ (W' : World) (o : Obj), (Below w0.heap.size w0 W' ∧ W'.cell? ⟨w.heap.size, 0, none⟩ = some (.string x.m.name) ∧ W'.cell? ⟨w.heap.size, 1, none⟩ = some (.int .i64 x.m.major) ∧ W'.cell? ⟨w.heap.size, 2, none⟩ = some (.int .i64 x.m.minor) ∧ W'.cell? ⟨w.heap.size, 3, none⟩ = some (.string x.m.text) ∧ W'.cell? ⟨w.heap.size, 4, none⟩ = some (.slice x.m.eA x.m.ex.length x.m.eC) ∧ W'.cell? ⟨w.heap.size, 5, none⟩ = some (.slice x.m.iA x.m.im.length x.m.iC) ∧ W'.cell? ⟨w.heap.size, 6, none⟩ = some (.slice x.m.pA x.m.pa.length x.m.pC) ∧ W'.cell? ⟨w.heap.size, 7, none⟩ = some (.int .i64 x.first)) → (Below w0.heap.size w0 (W'.alloc o) ∧ (W'.alloc o).cell? ⟨w.heap.size, 0, none⟩ = some (.string x.m.name) ∧ (W'.alloc o).cell? ⟨w.heap.size, 1, none⟩ = some (.int .i64 x.m.major) ∧ (W'.alloc o).cell? ⟨w.heap.size, 2, none⟩ = some (.int .i64 x.m.minor) ∧ (W'.alloc o).cell? ⟨w.heap.size, 3, none⟩ = some (.string x.m.text) ∧ (W'.alloc o).cell? ⟨w.heap.size, 4, none⟩ = some (.slice x.m.eA x.m.ex.length x.m.eC) ∧ (W'.alloc o).cell? ⟨w.heap.size, 5, none⟩ = some (.slice x.m.iA x.m.im.length x.m.iC) ∧ (W'.alloc o).cell? ⟨w.heap.size, 6, none⟩ = some (.slice x.m.pA x.m.pa.length x.m.pC) ∧ (W'.alloc o).cell? ⟨w.heap.size, 7, none⟩ = some (.int .i64 x.first)) from fun W' o hc => HCS.out W' (W'.alloc o) hc ((Below.refl _ _).alloc (Nat.le_refl _) o))
  have HCL := Lib.hid (show ∀ W' : World, (Below w0.heap.size w0 W' ∧ W'.cell? ⟨w.heap.size, 0, none⟩ = some (.string x.m.name) ∧ W'.cell? ⟨w.heap.size, 1, none⟩ = some (.int .i64 x.m.major) ∧ W'.cell? ⟨w.heap.size, 2, none⟩ = some (.int .i64 x.m.minor) ∧ W'.cell? ⟨w.heap.size, 3, none⟩ = some (.string x.m.text) ∧ W'.cell? ⟨w.heap.size, 4, none⟩ = some (.slice x.m.eA x.m.ex.length x.m.eC) ∧ W'.cell? ⟨w.heap.size, 5, none⟩ = some (.slice x.m.iA x.m.im.length x.m.iC) ∧ W'.cell? ⟨w.heap.size, 6, none⟩ = some (.slice x.m.pA x.m.pa.length x.m.pC) ∧ W'.cell? ⟨w.heap.size, 7, none⟩ = some (.int .i64 x.first)) → Below w0.heap.size w0 W' from fun W' hc => hc.1)
  clear e0 e1 e2 e3 e4 e5 e6 e7
  go_enter Try.func79, Try.ntmps79
  go_wp2_with fail
  go_region_held3 (fun W' => Below w0.heap.size w0 W' ∧ W'.cell? ⟨w.heap.size, 0, none⟩ = some (.string x.m.name) ∧ W'.cell? ⟨w.heap.size, 1, none⟩ = some (.int .i64 x.m.major) ∧ W'.cell? ⟨w.heap.size, 2, none⟩ = some (.int .i64 x.m.minor) ∧ W'.cell? ⟨w.heap.size, 3, none⟩ = some (.string x.m.text) ∧ W'.cell? ⟨w.heap.size, 4, none⟩ = some (.slice x.m.eA x.m.ex.length x.m.eC) ∧ W'.cell? ⟨w.heap.size, 5, none⟩ = some (.slice x.m.iA x.m.im.length x.m.iC) ∧ W'.cell? ⟨w.heap.size, 6, none⟩ = some (.slice x.m.pA x.m.pa.length x.m.pC) ∧ W'.cell? ⟨w.heap.size, 7, none⟩ = some (.int .i64 x.first)) (first | exact HC0.out | exact HCD.out _ HC0.out | exact HCS.out _ _ (by assumption) (by assumption) | exact HCS.out _ _ HC0.out (by assumption) | exact HCS.out _ _ (HCD.out _ HC0.out) (by assumption) | exact HCS.out _ _ (HCD.out _ (by assumption)) (by assumption) | exact HCD.out _ (by assumption) | exact HCA.out _ _ (by assumption) | exact HCA.out _ _ HC0.out | exact HCA.out _ _ (HCD.out _ HC0.out) | exact HCD.out _ (HCA.out _ _ (by assumption)) | assumption) (first | (go_at_call 38; refine (cM.out _).mono ?_; rintro e w3 ⟨rfl, hb3⟩))
  have hB := HCL.out _ (by assumption)
  clear HC0 HCD HCS HCA
  go_wp2_with fail
  go_ret
  exact ⟨ret_int (by first | exact HE.out | exact q0.out.trans HE.out), H0.out.trans (hB.mono (by omega))⟩


set_option maxHeartbeats 2000000 in
set_option maxRecDepth 100000 in
theorem regQ_any (x : Plc) (w : World) (h : modErr x.m = 0) :
    Calls Try.prog 78 #[x.v] w fun e w' => e = .returned (.bool (regQ x)) ∧ Below w.heap.size w w' := by
  obtain ⟨w0, hw0⟩ : ∃ w0, w0 = w.alloc (.cells #[.string x.m.name, .int .i64 x.m.major, .int .i64 x.m.minor, .string x.m.text, .slice x.m.eA x.m.ex.length x.m.eC, .slice x.m.iA x.m.im.length x.m.iC, .slice x.m.pA x.m.pa.length x.m.pC, .int .i64 x.first] 46) := ⟨_, rfl⟩
  obtain ⟨e0, e1, e2, e3, e4, e5, e6, e7, hz, hb⟩ := box8 hw0
  have hw0' := hw0.symm
  have hz0 : w.heap.size < w0.heap.size := by omega
  have H0 := Lib.hid hb
  have hm := many_ok h
  have hx := (modErr_facts h).2.2.1
  have cM := Lib.hid (fun W => Many_any x.m W (by unfold big; omega))
  obtain ⟨M, hM⟩ : ∃ M, M = manyOf x.m := ⟨_, rfl⟩
  rw [← hM] at cM hm
  have q0 : IntKind.i64.wrap (16 - M) = 16 - M := IntWalk.i64_in _ (by omega)
  have hq : regQ x = (decide (0 ≤ x.first) && decide (x.first ≤ 16 - M)) := by unfold regQ; rw [hM]
  clear hw0 hb hM hm h hx
  have HC0 := Lib.hid (show Below w0.heap.size w0 w0 ∧ w0.cell? ⟨w.heap.size, 0, none⟩ = some (.string x.m.name) ∧ w0.cell? ⟨w.heap.size, 1, none⟩ = some (.int .i64 x.m.major) ∧ w0.cell? ⟨w.heap.size, 2, none⟩ = some (.int .i64 x.m.minor) ∧ w0.cell? ⟨w.heap.size, 3, none⟩ = some (.string x.m.text) ∧ w0.cell? ⟨w.heap.size, 4, none⟩ = some (.slice x.m.eA x.m.ex.length x.m.eC) ∧ w0.cell? ⟨w.heap.size, 5, none⟩ = some (.slice x.m.iA x.m.im.length x.m.iC) ∧ w0.cell? ⟨w.heap.size, 6, none⟩ = some (.slice x.m.pA x.m.pa.length x.m.pC) ∧ w0.cell? ⟨w.heap.size, 7, none⟩ = some (.int .i64 x.first) from ⟨Below.refl _ _, by assumption, by assumption, by assumption, by assumption, by assumption, by assumption, by assumption, by assumption⟩)
  have HCD := Lib.hid (show ∀ W' : World, (Below w0.heap.size w0 W' ∧ W'.cell? ⟨w.heap.size, 0, none⟩ = some (.string x.m.name) ∧ W'.cell? ⟨w.heap.size, 1, none⟩ = some (.int .i64 x.m.major) ∧ W'.cell? ⟨w.heap.size, 2, none⟩ = some (.int .i64 x.m.minor) ∧ W'.cell? ⟨w.heap.size, 3, none⟩ = some (.string x.m.text) ∧ W'.cell? ⟨w.heap.size, 4, none⟩ = some (.slice x.m.eA x.m.ex.length x.m.eC) ∧ W'.cell? ⟨w.heap.size, 5, none⟩ = some (.slice x.m.iA x.m.im.length x.m.iC) ∧ W'.cell? ⟨w.heap.size, 6, none⟩ = some (.slice x.m.pA x.m.pa.length x.m.pC) ∧ W'.cell? ⟨w.heap.size, 7, none⟩ = some (.int .i64 x.first)) → (Below w0.heap.size w0 W'.drew ∧ W'.drew.cell? ⟨w.heap.size, 0, none⟩ = some (.string x.m.name) ∧ W'.drew.cell? ⟨w.heap.size, 1, none⟩ = some (.int .i64 x.m.major) ∧ W'.drew.cell? ⟨w.heap.size, 2, none⟩ = some (.int .i64 x.m.minor) ∧ W'.drew.cell? ⟨w.heap.size, 3, none⟩ = some (.string x.m.text) ∧ W'.drew.cell? ⟨w.heap.size, 4, none⟩ = some (.slice x.m.eA x.m.ex.length x.m.eC) ∧ W'.drew.cell? ⟨w.heap.size, 5, none⟩ = some (.slice x.m.iA x.m.im.length x.m.iC) ∧ W'.drew.cell? ⟨w.heap.size, 6, none⟩ = some (.slice x.m.pA x.m.pa.length x.m.pC) ∧ W'.drew.cell? ⟨w.heap.size, 7, none⟩ = some (.int .i64 x.first)) from fun W' ⟨b, a0, a1, a2, a3, a4, a5, a6, a7⟩ => ⟨b.drew, a0, a1, a2, a3, a4, a5, a6, a7⟩)
  have HCS := Lib.hid (show ∀ W' W2 : World, (Below w0.heap.size w0 W' ∧ W'.cell? ⟨w.heap.size, 0, none⟩ = some (.string x.m.name) ∧ W'.cell? ⟨w.heap.size, 1, none⟩ = some (.int .i64 x.m.major) ∧ W'.cell? ⟨w.heap.size, 2, none⟩ = some (.int .i64 x.m.minor) ∧ W'.cell? ⟨w.heap.size, 3, none⟩ = some (.string x.m.text) ∧ W'.cell? ⟨w.heap.size, 4, none⟩ = some (.slice x.m.eA x.m.ex.length x.m.eC) ∧ W'.cell? ⟨w.heap.size, 5, none⟩ = some (.slice x.m.iA x.m.im.length x.m.iC) ∧ W'.cell? ⟨w.heap.size, 6, none⟩ = some (.slice x.m.pA x.m.pa.length x.m.pC) ∧ W'.cell? ⟨w.heap.size, 7, none⟩ = some (.int .i64 x.first)) → Below W'.heap.size W' W2 → (Below w0.heap.size w0 W2 ∧ W2.cell? ⟨w.heap.size, 0, none⟩ = some (.string x.m.name) ∧ W2.cell? ⟨w.heap.size, 1, none⟩ = some (.int .i64 x.m.major) ∧ W2.cell? ⟨w.heap.size, 2, none⟩ = some (.int .i64 x.m.minor) ∧ W2.cell? ⟨w.heap.size, 3, none⟩ = some (.string x.m.text) ∧ W2.cell? ⟨w.heap.size, 4, none⟩ = some (.slice x.m.eA x.m.ex.length x.m.eC) ∧ W2.cell? ⟨w.heap.size, 5, none⟩ = some (.slice x.m.iA x.m.im.length x.m.iC) ∧ W2.cell? ⟨w.heap.size, 6, none⟩ = some (.slice x.m.pA x.m.pa.length x.m.pC) ∧ W2.cell? ⟨w.heap.size, 7, none⟩ = some (.int .i64 x.first)) from fun W' W2 ⟨b, a0, a1, a2, a3, a4, a5, a6, a7⟩ hb => have s := b.size; ⟨b.trans (hb.mono s), (hb.cell (by first | omega | (simp; omega) | (simp only [block_of_add]; omega))).trans a0, (hb.cell (by first | omega | (simp; omega) | (simp only [block_of_add]; omega))).trans a1, (hb.cell (by first | omega | (simp; omega) | (simp only [block_of_add]; omega))).trans a2, (hb.cell (by first | omega | (simp; omega) | (simp only [block_of_add]; omega))).trans a3, (hb.cell (by first | omega | (simp; omega) | (simp only [block_of_add]; omega))).trans a4, (hb.cell (by first | omega | (simp; omega) | (simp only [block_of_add]; omega))).trans a5, (hb.cell (by first | omega | (simp; omega) | (simp only [block_of_add]; omega))).trans a6, (hb.cell (by first | omega | (simp; omega) | (simp only [block_of_add]; omega))).trans a7⟩)
  have HCA := Lib.hid (show ∀ (W' : World) (o : Obj), (Below w0.heap.size w0 W' ∧ W'.cell? ⟨w.heap.size, 0, none⟩ = some (.string x.m.name) ∧ W'.cell? ⟨w.heap.size, 1, none⟩ = some (.int .i64 x.m.major) ∧ W'.cell? ⟨w.heap.size, 2, none⟩ = some (.int .i64 x.m.minor) ∧ W'.cell? ⟨w.heap.size, 3, none⟩ = some (.string x.m.text) ∧ W'.cell? ⟨w.heap.size, 4, none⟩ = some (.slice x.m.eA x.m.ex.length x.m.eC) ∧ W'.cell? ⟨w.heap.size, 5, none⟩ = some (.slice x.m.iA x.m.im.length x.m.iC) ∧ W'.cell? ⟨w.heap.size, 6, none⟩ = some (.slice x.m.pA x.m.pa.length x.m.pC) ∧ W'.cell? ⟨w.heap.size, 7, none⟩ = some (.int .i64 x.first)) → (Below w0.heap.size w0 (W'.alloc o) ∧ (W'.alloc o).cell? ⟨w.heap.size, 0, none⟩ = some (.string x.m.name) ∧ (W'.alloc o).cell? ⟨w.heap.size, 1, none⟩ = some (.int .i64 x.m.major) ∧ (W'.alloc o).cell? ⟨w.heap.size, 2, none⟩ = some (.int .i64 x.m.minor) ∧ (W'.alloc o).cell? ⟨w.heap.size, 3, none⟩ = some (.string x.m.text) ∧ (W'.alloc o).cell? ⟨w.heap.size, 4, none⟩ = some (.slice x.m.eA x.m.ex.length x.m.eC) ∧ (W'.alloc o).cell? ⟨w.heap.size, 5, none⟩ = some (.slice x.m.iA x.m.im.length x.m.iC) ∧ (W'.alloc o).cell? ⟨w.heap.size, 6, none⟩ = some (.slice x.m.pA x.m.pa.length x.m.pC) ∧ (W'.alloc o).cell? ⟨w.heap.size, 7, none⟩ = some (.int .i64 x.first)) from fun W' o hc => HCS.out W' (W'.alloc o) hc ((Below.refl _ _).alloc (Nat.le_refl _) o))
  have HCL := Lib.hid (show ∀ W' : World, (Below w0.heap.size w0 W' ∧ W'.cell? ⟨w.heap.size, 0, none⟩ = some (.string x.m.name) ∧ W'.cell? ⟨w.heap.size, 1, none⟩ = some (.int .i64 x.m.major) ∧ W'.cell? ⟨w.heap.size, 2, none⟩ = some (.int .i64 x.m.minor) ∧ W'.cell? ⟨w.heap.size, 3, none⟩ = some (.string x.m.text) ∧ W'.cell? ⟨w.heap.size, 4, none⟩ = some (.slice x.m.eA x.m.ex.length x.m.eC) ∧ W'.cell? ⟨w.heap.size, 5, none⟩ = some (.slice x.m.iA x.m.im.length x.m.iC) ∧ W'.cell? ⟨w.heap.size, 6, none⟩ = some (.slice x.m.pA x.m.pa.length x.m.pC) ∧ W'.cell? ⟨w.heap.size, 7, none⟩ = some (.int .i64 x.first)) → Below w0.heap.size w0 W' from fun W' hc => hc.1)
  clear e0 e1 e2 e3 e4 e5 e6 e7
  by_cases t0 : 0 ≤ x.first
  · by_cases t1 : x.first ≤ 16 - M
    · have HE := Lib.hid (show true = regQ x by rw [hq]; simp [t0, t1])
      clear hq
      go_enter Try.func78, Try.ntmps78
      go_wp2_with fail
      go_region_held3 (fun W' => Below w0.heap.size w0 W' ∧ W'.cell? ⟨w.heap.size, 0, none⟩ = some (.string x.m.name) ∧ W'.cell? ⟨w.heap.size, 1, none⟩ = some (.int .i64 x.m.major) ∧ W'.cell? ⟨w.heap.size, 2, none⟩ = some (.int .i64 x.m.minor) ∧ W'.cell? ⟨w.heap.size, 3, none⟩ = some (.string x.m.text) ∧ W'.cell? ⟨w.heap.size, 4, none⟩ = some (.slice x.m.eA x.m.ex.length x.m.eC) ∧ W'.cell? ⟨w.heap.size, 5, none⟩ = some (.slice x.m.iA x.m.im.length x.m.iC) ∧ W'.cell? ⟨w.heap.size, 6, none⟩ = some (.slice x.m.pA x.m.pa.length x.m.pC) ∧ W'.cell? ⟨w.heap.size, 7, none⟩ = some (.int .i64 x.first)) (first | exact HC0.out | exact HCD.out _ HC0.out | exact HCS.out _ _ (by assumption) (by assumption) | exact HCS.out _ _ HC0.out (by assumption) | exact HCS.out _ _ (HCD.out _ HC0.out) (by assumption) | exact HCS.out _ _ (HCD.out _ (by assumption)) (by assumption) | exact HCD.out _ (by assumption) | exact HCA.out _ _ (by assumption) | exact HCA.out _ _ HC0.out | exact HCA.out _ _ (HCD.out _ HC0.out) | exact HCD.out _ (HCA.out _ _ (by assumption)) | assumption) (first | (go_at_call 38; refine (cM.out _).mono ?_; rintro e w3 ⟨rfl, hb3⟩))
      have hB := HCL.out _ (by assumption)
      clear HC0 HCD HCS HCA
      go_wp2_with fail
      go_ret
      exact ⟨ret_bool HE.out, H0.out.trans (hB.mono (by omega))⟩
    · have HE := Lib.hid (show false = regQ x by rw [hq]; simp [t0, t1])
      have t1' : decide (x.first ≤ 16 - M) = false := by simp; omega
      clear hq t1
      go_enter Try.func78, Try.ntmps78
      go_wp2_with fail
      go_region_held3 (fun W' => Below w0.heap.size w0 W' ∧ W'.cell? ⟨w.heap.size, 0, none⟩ = some (.string x.m.name) ∧ W'.cell? ⟨w.heap.size, 1, none⟩ = some (.int .i64 x.m.major) ∧ W'.cell? ⟨w.heap.size, 2, none⟩ = some (.int .i64 x.m.minor) ∧ W'.cell? ⟨w.heap.size, 3, none⟩ = some (.string x.m.text) ∧ W'.cell? ⟨w.heap.size, 4, none⟩ = some (.slice x.m.eA x.m.ex.length x.m.eC) ∧ W'.cell? ⟨w.heap.size, 5, none⟩ = some (.slice x.m.iA x.m.im.length x.m.iC) ∧ W'.cell? ⟨w.heap.size, 6, none⟩ = some (.slice x.m.pA x.m.pa.length x.m.pC) ∧ W'.cell? ⟨w.heap.size, 7, none⟩ = some (.int .i64 x.first)) (first | exact HC0.out | exact HCD.out _ HC0.out | exact HCS.out _ _ (by assumption) (by assumption) | exact HCS.out _ _ HC0.out (by assumption) | exact HCS.out _ _ (HCD.out _ HC0.out) (by assumption) | exact HCS.out _ _ (HCD.out _ (by assumption)) (by assumption) | exact HCD.out _ (by assumption) | exact HCA.out _ _ (by assumption) | exact HCA.out _ _ HC0.out | exact HCA.out _ _ (HCD.out _ HC0.out) | exact HCD.out _ (HCA.out _ _ (by assumption)) | assumption) (first | (go_at_call 38; refine (cM.out _).mono ?_; rintro e w3 ⟨rfl, hb3⟩))
      have hB := HCL.out _ (by assumption)
      clear HC0 HCD HCS HCA
      go_wp2_with fail
      go_ret
      exact ⟨ret_bool HE.out, H0.out.trans (hB.mono (by omega))⟩
  · have HE := Lib.hid (show false = regQ x by rw [hq]; simp [t0])
    have t0' : decide (0 ≤ x.first) = false := by simp; omega
    clear hq t0
    go_enter Try.func78, Try.ntmps78
    go_wp2_with fail
    have f0 := HC0.out.2.1
    have f7 := HC0.out.2.2.2.2.2.2.2.2
    clear HC0 HCD HCS HCA HCL cM
    go_quiet (fail)
    go_wp2_with fail
    go_ret
    exact ⟨ret_bool HE.out, below_drewN H0.out _⟩

set_option maxHeartbeats 2000000 in
set_option maxRecDepth 100000 in
theorem RCheck_any (A : Option Addr) (c : Nat) (l : List Plc) (w : World) (h : PlsOk w A l) :
    Calls Try.prog 39 #[.slice A l.length c] w fun e w' => e = .returned (.int .i64 (regErr l)) ∧ Below w.heap.size w w' := by
  have hl := h.len
  unfold big at hl
  have HP := Lib.hid h
  have c1 := Lib.hid (Modules_any A c l 78 regQ w (enters_of Try.func78 (by kernel_rfl) rfl) h (fun x _ hx W => regQ_any x W hx))
  obtain ⟨E, hE⟩ : ∃ E, E = modsAll regQ l := ⟨_, rfl⟩
  rw [← hE] at c1
  have hR : regErr l = if E ≠ 0 then E else adjErr l := by unfold regErr; rw [hE]
  clear h
  by_cases t0 : E = 0
  · obtain rfl := t0
    rw [if_neg (by omega)] at hR
    obtain ⟨h8, hall⟩ := modsAll_ok hE.symm
    have HALL := Lib.hid (show ∀ x ∈ l, x.m.text.size ≤ 256 ∧ 0 ≤ x.first ∧ x.first ≤ 16 ∧ 0 ≤ manyOf x.m ∧ manyOf x.m ≤ 4 from fun x hx => by
      obtain ⟨h1, h2⟩ := hall x hx
      have h3 := many_ok h1
      simp only [regQ, Bool.and_eq_true, decide_eq_true_eq] at h2
      exact ⟨(modErr_facts h1).2.2.1, by omega⟩)
    have HR := Lib.hid hR
    clear hE hR h8 hall
    go_enter Try.func39, Try.ntmps39
    go_wp2_with (first | (go_at_call 77; refine (c1.out).mono ?_; rintro e w2 ⟨rfl, hb2⟩))
    clear c1
    go_loopw [4] (fun i wr => ∃ j : Nat, 1 ≤ j ∧ (j ≤ l.length ∨ j = 1) ∧ i = .int .i64 j ∧ adjFrom l j = adjErr l ∧ Below w.heap.size w wr) (fun i _ => l.length - (intOf i).toNat)
    case atStart => exact ⟨1, by omega, by omega, rfl, adjFrom_one, hb2⟩
    case round =>
      obtain ⟨j, hj1, hj, rfl, hE, hb⟩ := hrel
      have HE := Lib.hid hE
      have HB := Lib.hid hb
      clear hE
      by_cases hlt : j < l.length
      · have hlt' : (j : Int) < l.length := by omega
        obtain ⟨ad, rfl, hab, h0, h1, h2, h3, h4, h5, h6, h7⟩ := plc_at HP.out.row hb j hlt
        obtain ⟨k, hk⟩ : ∃ k, j = k + 1 := ⟨j - 1, by omega⟩
        have hkl : k < l.length := by omega
        obtain ⟨ad', e', hab', g0, g1, g2, g3, g4, g5, g6, g7⟩ := plc_at HP.out.row hb k hkl
        obtain rfl := Option.some.inj e'
        have hwz := hb.size
        have q1 : IntKind.i64.wrap ((j : Int) - 1) = k := by rw [IntWalk.i64_in _ (by omega)]; omega
        have HK := Lib.hid (show ∀ (h : j < l.length), l[j - 1]'(Nat.lt_of_le_of_lt (Nat.sub_le _ _) h) = l[k]'hkl from fun h => by simp only [show j - 1 = k by omega])
        have q2 : (k : Int) < l.length := by omega
        have q3 : (0 : Int) ≤ k := by omega
        obtain ⟨f1, f2, f3, f4, f5⟩ := HALL.out (l[k]'hkl) (List.getElem_mem _)
        obtain ⟨y, hy⟩ : ∃ y, y = l[k]'hkl := ⟨_, rfl⟩
        rw [← hy] at f1 f2 f3 f4 f5 g0 g1 g2 g3 g4 g5 g6 g7
        have HY := Lib.hid hy
        obtain ⟨z, hz⟩ : ∃ z, z = l[j].first := ⟨_, rfl⟩
        rw [← hz] at h7
        have HZ := Lib.hid hz
        clear hy hz
        have cE := Lib.hid (fun W => End_any y W f1 f2 f3)
        obtain ⟨N, hN⟩ : ∃ N, N = endOf y := ⟨_, rfl⟩
        rw [← hN] at cE
        have HN := Lib.hid hN
        clear f1 f2 f3 f4 f5 hN e'
        have hbm : (ad.add (j * 8)).block < wr.heap.size := by rw [block_of_add]; omega
        have hbn : (ad.add (k * 8)).block < wr.heap.size := by rw [block_of_add]; omega
        have HC0 := Lib.hid (show Below wr.heap.size wr wr ∧ wr.cell? (ad.add (k * 8)) = some (.string y.m.name) ∧ wr.cell? ⟨(ad.add (k * 8)).block, (ad.add (k * 8)).off + 1, none⟩ = some (.int .i64 y.m.major) ∧ wr.cell? ⟨(ad.add (k * 8)).block, (ad.add (k * 8)).off + 2, none⟩ = some (.int .i64 y.m.minor) ∧ wr.cell? ⟨(ad.add (k * 8)).block, (ad.add (k * 8)).off + 3, none⟩ = some (.string y.m.text) ∧ wr.cell? ⟨(ad.add (k * 8)).block, (ad.add (k * 8)).off + 4, none⟩ = some (.slice y.m.eA y.m.ex.length y.m.eC) ∧ wr.cell? ⟨(ad.add (k * 8)).block, (ad.add (k * 8)).off + 5, none⟩ = some (.slice y.m.iA y.m.im.length y.m.iC) ∧ wr.cell? ⟨(ad.add (k * 8)).block, (ad.add (k * 8)).off + 6, none⟩ = some (.slice y.m.pA y.m.pa.length y.m.pC) ∧ wr.cell? ⟨(ad.add (k * 8)).block, (ad.add (k * 8)).off + 7, none⟩ = some (.int .i64 y.first) ∧ wr.cell? ⟨(ad.add (j * 8)).block, (ad.add (j * 8)).off + 7, none⟩ = some (.int .i64 z) from ⟨Below.refl _ _, by assumption, by assumption, by assumption, by assumption, by assumption, by assumption, by assumption, by assumption, by assumption⟩)
        have HCD := Lib.hid (show ∀ W' : World, (Below wr.heap.size wr W' ∧ W'.cell? (ad.add (k * 8)) = some (.string y.m.name) ∧ W'.cell? ⟨(ad.add (k * 8)).block, (ad.add (k * 8)).off + 1, none⟩ = some (.int .i64 y.m.major) ∧ W'.cell? ⟨(ad.add (k * 8)).block, (ad.add (k * 8)).off + 2, none⟩ = some (.int .i64 y.m.minor) ∧ W'.cell? ⟨(ad.add (k * 8)).block, (ad.add (k * 8)).off + 3, none⟩ = some (.string y.m.text) ∧ W'.cell? ⟨(ad.add (k * 8)).block, (ad.add (k * 8)).off + 4, none⟩ = some (.slice y.m.eA y.m.ex.length y.m.eC) ∧ W'.cell? ⟨(ad.add (k * 8)).block, (ad.add (k * 8)).off + 5, none⟩ = some (.slice y.m.iA y.m.im.length y.m.iC) ∧ W'.cell? ⟨(ad.add (k * 8)).block, (ad.add (k * 8)).off + 6, none⟩ = some (.slice y.m.pA y.m.pa.length y.m.pC) ∧ W'.cell? ⟨(ad.add (k * 8)).block, (ad.add (k * 8)).off + 7, none⟩ = some (.int .i64 y.first) ∧ W'.cell? ⟨(ad.add (j * 8)).block, (ad.add (j * 8)).off + 7, none⟩ = some (.int .i64 z)) → (Below wr.heap.size wr W'.drew ∧ W'.drew.cell? (ad.add (k * 8)) = some (.string y.m.name) ∧ W'.drew.cell? ⟨(ad.add (k * 8)).block, (ad.add (k * 8)).off + 1, none⟩ = some (.int .i64 y.m.major) ∧ W'.drew.cell? ⟨(ad.add (k * 8)).block, (ad.add (k * 8)).off + 2, none⟩ = some (.int .i64 y.m.minor) ∧ W'.drew.cell? ⟨(ad.add (k * 8)).block, (ad.add (k * 8)).off + 3, none⟩ = some (.string y.m.text) ∧ W'.drew.cell? ⟨(ad.add (k * 8)).block, (ad.add (k * 8)).off + 4, none⟩ = some (.slice y.m.eA y.m.ex.length y.m.eC) ∧ W'.drew.cell? ⟨(ad.add (k * 8)).block, (ad.add (k * 8)).off + 5, none⟩ = some (.slice y.m.iA y.m.im.length y.m.iC) ∧ W'.drew.cell? ⟨(ad.add (k * 8)).block, (ad.add (k * 8)).off + 6, none⟩ = some (.slice y.m.pA y.m.pa.length y.m.pC) ∧ W'.drew.cell? ⟨(ad.add (k * 8)).block, (ad.add (k * 8)).off + 7, none⟩ = some (.int .i64 y.first) ∧ W'.drew.cell? ⟨(ad.add (j * 8)).block, (ad.add (j * 8)).off + 7, none⟩ = some (.int .i64 z)) from fun W' ⟨b, a0, a1, a2, a3, a4, a5, a6, a7, a8⟩ => ⟨b.drew, a0, a1, a2, a3, a4, a5, a6, a7, a8⟩)
        have HCS := Lib.hid (show ∀ W' W2 : World, (Below wr.heap.size wr W' ∧ W'.cell? (ad.add (k * 8)) = some (.string y.m.name) ∧ W'.cell? ⟨(ad.add (k * 8)).block, (ad.add (k * 8)).off + 1, none⟩ = some (.int .i64 y.m.major) ∧ W'.cell? ⟨(ad.add (k * 8)).block, (ad.add (k * 8)).off + 2, none⟩ = some (.int .i64 y.m.minor) ∧ W'.cell? ⟨(ad.add (k * 8)).block, (ad.add (k * 8)).off + 3, none⟩ = some (.string y.m.text) ∧ W'.cell? ⟨(ad.add (k * 8)).block, (ad.add (k * 8)).off + 4, none⟩ = some (.slice y.m.eA y.m.ex.length y.m.eC) ∧ W'.cell? ⟨(ad.add (k * 8)).block, (ad.add (k * 8)).off + 5, none⟩ = some (.slice y.m.iA y.m.im.length y.m.iC) ∧ W'.cell? ⟨(ad.add (k * 8)).block, (ad.add (k * 8)).off + 6, none⟩ = some (.slice y.m.pA y.m.pa.length y.m.pC) ∧ W'.cell? ⟨(ad.add (k * 8)).block, (ad.add (k * 8)).off + 7, none⟩ = some (.int .i64 y.first) ∧ W'.cell? ⟨(ad.add (j * 8)).block, (ad.add (j * 8)).off + 7, none⟩ = some (.int .i64 z)) → Below W'.heap.size W' W2 → (Below wr.heap.size wr W2 ∧ W2.cell? (ad.add (k * 8)) = some (.string y.m.name) ∧ W2.cell? ⟨(ad.add (k * 8)).block, (ad.add (k * 8)).off + 1, none⟩ = some (.int .i64 y.m.major) ∧ W2.cell? ⟨(ad.add (k * 8)).block, (ad.add (k * 8)).off + 2, none⟩ = some (.int .i64 y.m.minor) ∧ W2.cell? ⟨(ad.add (k * 8)).block, (ad.add (k * 8)).off + 3, none⟩ = some (.string y.m.text) ∧ W2.cell? ⟨(ad.add (k * 8)).block, (ad.add (k * 8)).off + 4, none⟩ = some (.slice y.m.eA y.m.ex.length y.m.eC) ∧ W2.cell? ⟨(ad.add (k * 8)).block, (ad.add (k * 8)).off + 5, none⟩ = some (.slice y.m.iA y.m.im.length y.m.iC) ∧ W2.cell? ⟨(ad.add (k * 8)).block, (ad.add (k * 8)).off + 6, none⟩ = some (.slice y.m.pA y.m.pa.length y.m.pC) ∧ W2.cell? ⟨(ad.add (k * 8)).block, (ad.add (k * 8)).off + 7, none⟩ = some (.int .i64 y.first) ∧ W2.cell? ⟨(ad.add (j * 8)).block, (ad.add (j * 8)).off + 7, none⟩ = some (.int .i64 z)) from fun W' W2 ⟨b, a0, a1, a2, a3, a4, a5, a6, a7, a8⟩ hb => have s := b.size; ⟨b.trans (hb.mono s), (hb.cell (by first | omega | (simp; omega) | (simp only [block_of_add]; omega))).trans a0, (hb.cell (by first | omega | (simp; omega) | (simp only [block_of_add]; omega))).trans a1, (hb.cell (by first | omega | (simp; omega) | (simp only [block_of_add]; omega))).trans a2, (hb.cell (by first | omega | (simp; omega) | (simp only [block_of_add]; omega))).trans a3, (hb.cell (by first | omega | (simp; omega) | (simp only [block_of_add]; omega))).trans a4, (hb.cell (by first | omega | (simp; omega) | (simp only [block_of_add]; omega))).trans a5, (hb.cell (by first | omega | (simp; omega) | (simp only [block_of_add]; omega))).trans a6, (hb.cell (by first | omega | (simp; omega) | (simp only [block_of_add]; omega))).trans a7, (hb.cell (by first | omega | (simp; omega) | (simp only [block_of_add]; omega))).trans a8⟩)
        have HCA := Lib.hid (show ∀ (W' : World) (o : Obj), (Below wr.heap.size wr W' ∧ W'.cell? (ad.add (k * 8)) = some (.string y.m.name) ∧ W'.cell? ⟨(ad.add (k * 8)).block, (ad.add (k * 8)).off + 1, none⟩ = some (.int .i64 y.m.major) ∧ W'.cell? ⟨(ad.add (k * 8)).block, (ad.add (k * 8)).off + 2, none⟩ = some (.int .i64 y.m.minor) ∧ W'.cell? ⟨(ad.add (k * 8)).block, (ad.add (k * 8)).off + 3, none⟩ = some (.string y.m.text) ∧ W'.cell? ⟨(ad.add (k * 8)).block, (ad.add (k * 8)).off + 4, none⟩ = some (.slice y.m.eA y.m.ex.length y.m.eC) ∧ W'.cell? ⟨(ad.add (k * 8)).block, (ad.add (k * 8)).off + 5, none⟩ = some (.slice y.m.iA y.m.im.length y.m.iC) ∧ W'.cell? ⟨(ad.add (k * 8)).block, (ad.add (k * 8)).off + 6, none⟩ = some (.slice y.m.pA y.m.pa.length y.m.pC) ∧ W'.cell? ⟨(ad.add (k * 8)).block, (ad.add (k * 8)).off + 7, none⟩ = some (.int .i64 y.first) ∧ W'.cell? ⟨(ad.add (j * 8)).block, (ad.add (j * 8)).off + 7, none⟩ = some (.int .i64 z)) → (Below wr.heap.size wr (W'.alloc o) ∧ (W'.alloc o).cell? (ad.add (k * 8)) = some (.string y.m.name) ∧ (W'.alloc o).cell? ⟨(ad.add (k * 8)).block, (ad.add (k * 8)).off + 1, none⟩ = some (.int .i64 y.m.major) ∧ (W'.alloc o).cell? ⟨(ad.add (k * 8)).block, (ad.add (k * 8)).off + 2, none⟩ = some (.int .i64 y.m.minor) ∧ (W'.alloc o).cell? ⟨(ad.add (k * 8)).block, (ad.add (k * 8)).off + 3, none⟩ = some (.string y.m.text) ∧ (W'.alloc o).cell? ⟨(ad.add (k * 8)).block, (ad.add (k * 8)).off + 4, none⟩ = some (.slice y.m.eA y.m.ex.length y.m.eC) ∧ (W'.alloc o).cell? ⟨(ad.add (k * 8)).block, (ad.add (k * 8)).off + 5, none⟩ = some (.slice y.m.iA y.m.im.length y.m.iC) ∧ (W'.alloc o).cell? ⟨(ad.add (k * 8)).block, (ad.add (k * 8)).off + 6, none⟩ = some (.slice y.m.pA y.m.pa.length y.m.pC) ∧ (W'.alloc o).cell? ⟨(ad.add (k * 8)).block, (ad.add (k * 8)).off + 7, none⟩ = some (.int .i64 y.first) ∧ (W'.alloc o).cell? ⟨(ad.add (j * 8)).block, (ad.add (j * 8)).off + 7, none⟩ = some (.int .i64 z)) from fun W' o hc => HCS.out W' (W'.alloc o) hc ((Below.refl _ _).alloc (Nat.le_refl _) o))
        have HCL := Lib.hid (show ∀ W' : World, (Below wr.heap.size wr W' ∧ W'.cell? (ad.add (k * 8)) = some (.string y.m.name) ∧ W'.cell? ⟨(ad.add (k * 8)).block, (ad.add (k * 8)).off + 1, none⟩ = some (.int .i64 y.m.major) ∧ W'.cell? ⟨(ad.add (k * 8)).block, (ad.add (k * 8)).off + 2, none⟩ = some (.int .i64 y.m.minor) ∧ W'.cell? ⟨(ad.add (k * 8)).block, (ad.add (k * 8)).off + 3, none⟩ = some (.string y.m.text) ∧ W'.cell? ⟨(ad.add (k * 8)).block, (ad.add (k * 8)).off + 4, none⟩ = some (.slice y.m.eA y.m.ex.length y.m.eC) ∧ W'.cell? ⟨(ad.add (k * 8)).block, (ad.add (k * 8)).off + 5, none⟩ = some (.slice y.m.iA y.m.im.length y.m.iC) ∧ W'.cell? ⟨(ad.add (k * 8)).block, (ad.add (k * 8)).off + 6, none⟩ = some (.slice y.m.pA y.m.pa.length y.m.pC) ∧ W'.cell? ⟨(ad.add (k * 8)).block, (ad.add (k * 8)).off + 7, none⟩ = some (.int .i64 y.first) ∧ W'.cell? ⟨(ad.add (j * 8)).block, (ad.add (j * 8)).off + 7, none⟩ = some (.int .i64 z)) → Below wr.heap.size wr W' from fun W' hc => hc.1)
        clear hk h0 h1 h2 h3 h4 h5 h6 h7 g0 g1 g2 g3 g4 g5 g6 g7 hb
        by_cases t1 : z < N
        · have e1 := Lib.hid ((adjFrom_bad hlt hj1 (show l[j].first < endOf l[j - 1] by rw [show l[j - 1] = l[k]'hkl from HK.out hlt, ← HZ.out, ← HY.out, ← HN.out]; exact t1)).symm.trans HE.out)
          go_wp2_with fail
          go_region_held3 (fun W' => Below wr.heap.size wr W' ∧ W'.cell? (ad.add (k * 8)) = some (.string y.m.name) ∧ W'.cell? ⟨(ad.add (k * 8)).block, (ad.add (k * 8)).off + 1, none⟩ = some (.int .i64 y.m.major) ∧ W'.cell? ⟨(ad.add (k * 8)).block, (ad.add (k * 8)).off + 2, none⟩ = some (.int .i64 y.m.minor) ∧ W'.cell? ⟨(ad.add (k * 8)).block, (ad.add (k * 8)).off + 3, none⟩ = some (.string y.m.text) ∧ W'.cell? ⟨(ad.add (k * 8)).block, (ad.add (k * 8)).off + 4, none⟩ = some (.slice y.m.eA y.m.ex.length y.m.eC) ∧ W'.cell? ⟨(ad.add (k * 8)).block, (ad.add (k * 8)).off + 5, none⟩ = some (.slice y.m.iA y.m.im.length y.m.iC) ∧ W'.cell? ⟨(ad.add (k * 8)).block, (ad.add (k * 8)).off + 6, none⟩ = some (.slice y.m.pA y.m.pa.length y.m.pC) ∧ W'.cell? ⟨(ad.add (k * 8)).block, (ad.add (k * 8)).off + 7, none⟩ = some (.int .i64 y.first) ∧ W'.cell? ⟨(ad.add (j * 8)).block, (ad.add (j * 8)).off + 7, none⟩ = some (.int .i64 z)) (first | exact HC0.out | exact HCD.out _ HC0.out | exact HCS.out _ _ (by assumption) (by assumption) | exact HCS.out _ _ HC0.out (by assumption) | exact HCS.out _ _ (HCD.out _ HC0.out) (by assumption) | exact HCS.out _ _ (HCD.out _ (by assumption)) (by assumption) | exact HCD.out _ (by assumption) | exact HCA.out _ _ (by assumption) | exact HCA.out _ _ HC0.out | exact HCA.out _ _ (HCD.out _ HC0.out) | exact HCD.out _ (HCA.out _ _ (by assumption)) | assumption) (first | (go_at_call 79; refine (cE.out _).mono ?_; rintro e w3 ⟨rfl, hb3⟩))
          have hB := HCL.out _ (by assumption)
          clear HC0 HCD HCS HCA
          go_wp2_with fail
          go_ret
          exact ⟨ret_int (e1.out.trans HR.out.symm), HB.out.trans (hB.mono (by omega))⟩
        · have e1 := Lib.hid ((adjFrom_next hlt hj1 (show ¬ l[j].first < endOf l[j - 1] by rw [show l[j - 1] = l[k]'hkl from HK.out hlt, ← HZ.out, ← HY.out, ← HN.out]; exact t1)).trans HE.out)
          have t1' : decide (z < N) = false := by simp; omega
          clear t1
          go_wp2_with fail
          go_region_held3 (fun W' => Below wr.heap.size wr W' ∧ W'.cell? (ad.add (k * 8)) = some (.string y.m.name) ∧ W'.cell? ⟨(ad.add (k * 8)).block, (ad.add (k * 8)).off + 1, none⟩ = some (.int .i64 y.m.major) ∧ W'.cell? ⟨(ad.add (k * 8)).block, (ad.add (k * 8)).off + 2, none⟩ = some (.int .i64 y.m.minor) ∧ W'.cell? ⟨(ad.add (k * 8)).block, (ad.add (k * 8)).off + 3, none⟩ = some (.string y.m.text) ∧ W'.cell? ⟨(ad.add (k * 8)).block, (ad.add (k * 8)).off + 4, none⟩ = some (.slice y.m.eA y.m.ex.length y.m.eC) ∧ W'.cell? ⟨(ad.add (k * 8)).block, (ad.add (k * 8)).off + 5, none⟩ = some (.slice y.m.iA y.m.im.length y.m.iC) ∧ W'.cell? ⟨(ad.add (k * 8)).block, (ad.add (k * 8)).off + 6, none⟩ = some (.slice y.m.pA y.m.pa.length y.m.pC) ∧ W'.cell? ⟨(ad.add (k * 8)).block, (ad.add (k * 8)).off + 7, none⟩ = some (.int .i64 y.first) ∧ W'.cell? ⟨(ad.add (j * 8)).block, (ad.add (j * 8)).off + 7, none⟩ = some (.int .i64 z)) (first | exact HC0.out | exact HCD.out _ HC0.out | exact HCS.out _ _ (by assumption) (by assumption) | exact HCS.out _ _ HC0.out (by assumption) | exact HCS.out _ _ (HCD.out _ HC0.out) (by assumption) | exact HCS.out _ _ (HCD.out _ (by assumption)) (by assumption) | exact HCD.out _ (by assumption) | exact HCA.out _ _ (by assumption) | exact HCA.out _ _ HC0.out | exact HCA.out _ _ (HCD.out _ HC0.out) | exact HCD.out _ (HCA.out _ _ (by assumption)) | assumption) (first | (go_at_call 79; refine (cE.out _).mono ?_; rintro e w3 ⟨rfl, hb3⟩))
          have hB := HCL.out _ (by assumption)
          clear HC0 HCD HCS HCA
          go_wp2_with fail
          go_roundw
          case rel => exact ⟨j + 1, by omega, by omega, by go_num, e1.out, HB.out.trans (hB.mono (by omega))⟩
          case measure => (simp [intOf]; try omega)
      · have e1 := Lib.hid ((adjFrom_end hlt).symm.trans HE.out)
        go_wp2_with fail
        go_ret
        exact ⟨ret_int (e1.out.trans HR.out.symm), HB.out⟩
  · rw [if_pos t0] at hR
    have HR := Lib.hid hR
    have t0' : (E != 0) = true := by simp [t0]
    clear hE hR t0
    go_enter Try.func39, Try.ntmps39
    go_wp2_with (first | (go_at_call 77; refine (c1.out).mono ?_; rintro e w2 ⟨rfl, hb2⟩))
    go_ret
    exact ⟨ret_int HR.out.symm, hb2⟩

set_option maxHeartbeats 2000000 in
set_option maxRecDepth 100000 in
theorem CheckRegions_any (A : Option Addr) (c : Nat) (l : List Plc) (w : World) (h : PlsOk w A l) :
    Calls Try.prog 15 #[.slice A l.length c] w fun e w' => e = .returned (.int .i64 (regErr l)) ∧ Below w.heap.size w w' := by
  have hl := h.len
  unfold big at hl
  have HP := Lib.hid h
  have c1 := Lib.hid (CheckModules_any A c l true true w h)
  rw [refQ_reg] at c1
  obtain ⟨E, hE⟩ : ∃ E, E = modsAll regQ l := ⟨_, rfl⟩
  rw [← hE] at c1
  have hR : regErr l = if E ≠ 0 then E else adjErr l := by unfold regErr; rw [hE]
  clear h
  by_cases t0 : E = 0
  · obtain rfl := t0
    rw [if_neg (by omega)] at hR
    obtain ⟨h8, hall⟩ := modsAll_ok hE.symm
    have HALL := Lib.hid (show ∀ x ∈ l, x.m.text.size ≤ 256 ∧ 0 ≤ x.first ∧ x.first ≤ 16 ∧ 0 ≤ manyOf x.m ∧ manyOf x.m ≤ 4 from fun x hx => by
      obtain ⟨h1, h2⟩ := hall x hx
      have h3 := many_ok h1
      simp only [regQ, Bool.and_eq_true, decide_eq_true_eq] at h2
      exact ⟨(modErr_facts h1).2.2.1, by omega⟩)
    have HR := Lib.hid hR
    clear hE hR h8 hall
    go_enter Try.func15, Try.ntmps15
    go_wp2_with (first | (go_at_call 46; refine (c1.out).mono ?_; rintro e w2 ⟨rfl, hb2⟩))
    clear c1
    go_loopw [4] (fun i wr => ∃ j : Nat, 1 ≤ j ∧ (j ≤ l.length ∨ j = 1) ∧ i = .int .i64 j ∧ adjFrom l j = adjErr l ∧ Below w.heap.size w wr) (fun i _ => l.length - (intOf i).toNat)
    case atStart => exact ⟨1, by omega, by omega, rfl, adjFrom_one, hb2⟩
    case round =>
      obtain ⟨j, hj1, hj, rfl, hE, hb⟩ := hrel
      have HE := Lib.hid hE
      have HB := Lib.hid hb
      clear hE
      by_cases hlt : j < l.length
      · have hlt' : (j : Int) < l.length := by omega
        obtain ⟨ad, rfl, hab, h0, h1, h2, h3, h4, h5, h6, h7⟩ := plc_at HP.out.row hb j hlt
        obtain ⟨k, hk⟩ : ∃ k, j = k + 1 := ⟨j - 1, by omega⟩
        have hkl : k < l.length := by omega
        obtain ⟨ad', e', hab', g0, g1, g2, g3, g4, g5, g6, g7⟩ := plc_at HP.out.row hb k hkl
        obtain rfl := Option.some.inj e'
        have hwz := hb.size
        have q1 : IntKind.i64.wrap ((j : Int) - 1) = k := by rw [IntWalk.i64_in _ (by omega)]; omega
        have HK := Lib.hid (show ∀ (h : j < l.length), l[j - 1]'(Nat.lt_of_le_of_lt (Nat.sub_le _ _) h) = l[k]'hkl from fun h => by simp only [show j - 1 = k by omega])
        have q2 : (k : Int) < l.length := by omega
        have q3 : (0 : Int) ≤ k := by omega
        obtain ⟨f1, f2, f3, f4, f5⟩ := HALL.out (l[k]'hkl) (List.getElem_mem _)
        obtain ⟨y, hy⟩ : ∃ y, y = l[k]'hkl := ⟨_, rfl⟩
        rw [← hy] at f1 f2 f3 f4 f5 g0 g1 g2 g3 g4 g5 g6 g7
        have HY := Lib.hid hy
        obtain ⟨z, hz⟩ : ∃ z, z = l[j].first := ⟨_, rfl⟩
        rw [← hz] at h7
        have HZ := Lib.hid hz
        clear hy hz
        have cE := Lib.hid (fun W => SizeOf_any y.m W (by unfold big; omega))
        obtain ⟨N, hN⟩ : ∃ N, N = endOf y := ⟨_, rfl⟩
        obtain ⟨M, hM⟩ : ∃ M, M = manyOf y.m := ⟨_, rfl⟩
        rw [← hM] at cE f4 f5
        have q4 : IntKind.i64.wrap (y.first + M) = N := by rw [IntWalk.i64_in _ (by omega), hN, hM]; rfl
        clear hM
        have HN := Lib.hid hN
        clear f1 f2 f3 f4 f5 hN e'
        have hbm : (ad.add (j * 8)).block < wr.heap.size := by rw [block_of_add]; omega
        have hbn : (ad.add (k * 8)).block < wr.heap.size := by rw [block_of_add]; omega
        have HC0 := Lib.hid (show Below wr.heap.size wr wr ∧ wr.cell? (ad.add (k * 8)) = some (.string y.m.name) ∧ wr.cell? ⟨(ad.add (k * 8)).block, (ad.add (k * 8)).off + 1, none⟩ = some (.int .i64 y.m.major) ∧ wr.cell? ⟨(ad.add (k * 8)).block, (ad.add (k * 8)).off + 2, none⟩ = some (.int .i64 y.m.minor) ∧ wr.cell? ⟨(ad.add (k * 8)).block, (ad.add (k * 8)).off + 3, none⟩ = some (.string y.m.text) ∧ wr.cell? ⟨(ad.add (k * 8)).block, (ad.add (k * 8)).off + 4, none⟩ = some (.slice y.m.eA y.m.ex.length y.m.eC) ∧ wr.cell? ⟨(ad.add (k * 8)).block, (ad.add (k * 8)).off + 5, none⟩ = some (.slice y.m.iA y.m.im.length y.m.iC) ∧ wr.cell? ⟨(ad.add (k * 8)).block, (ad.add (k * 8)).off + 6, none⟩ = some (.slice y.m.pA y.m.pa.length y.m.pC) ∧ wr.cell? ⟨(ad.add (k * 8)).block, (ad.add (k * 8)).off + 7, none⟩ = some (.int .i64 y.first) ∧ wr.cell? ⟨(ad.add (j * 8)).block, (ad.add (j * 8)).off + 7, none⟩ = some (.int .i64 z) from ⟨Below.refl _ _, by assumption, by assumption, by assumption, by assumption, by assumption, by assumption, by assumption, by assumption, by assumption⟩)
        have HCD := Lib.hid (show ∀ W' : World, (Below wr.heap.size wr W' ∧ W'.cell? (ad.add (k * 8)) = some (.string y.m.name) ∧ W'.cell? ⟨(ad.add (k * 8)).block, (ad.add (k * 8)).off + 1, none⟩ = some (.int .i64 y.m.major) ∧ W'.cell? ⟨(ad.add (k * 8)).block, (ad.add (k * 8)).off + 2, none⟩ = some (.int .i64 y.m.minor) ∧ W'.cell? ⟨(ad.add (k * 8)).block, (ad.add (k * 8)).off + 3, none⟩ = some (.string y.m.text) ∧ W'.cell? ⟨(ad.add (k * 8)).block, (ad.add (k * 8)).off + 4, none⟩ = some (.slice y.m.eA y.m.ex.length y.m.eC) ∧ W'.cell? ⟨(ad.add (k * 8)).block, (ad.add (k * 8)).off + 5, none⟩ = some (.slice y.m.iA y.m.im.length y.m.iC) ∧ W'.cell? ⟨(ad.add (k * 8)).block, (ad.add (k * 8)).off + 6, none⟩ = some (.slice y.m.pA y.m.pa.length y.m.pC) ∧ W'.cell? ⟨(ad.add (k * 8)).block, (ad.add (k * 8)).off + 7, none⟩ = some (.int .i64 y.first) ∧ W'.cell? ⟨(ad.add (j * 8)).block, (ad.add (j * 8)).off + 7, none⟩ = some (.int .i64 z)) → (Below wr.heap.size wr W'.drew ∧ W'.drew.cell? (ad.add (k * 8)) = some (.string y.m.name) ∧ W'.drew.cell? ⟨(ad.add (k * 8)).block, (ad.add (k * 8)).off + 1, none⟩ = some (.int .i64 y.m.major) ∧ W'.drew.cell? ⟨(ad.add (k * 8)).block, (ad.add (k * 8)).off + 2, none⟩ = some (.int .i64 y.m.minor) ∧ W'.drew.cell? ⟨(ad.add (k * 8)).block, (ad.add (k * 8)).off + 3, none⟩ = some (.string y.m.text) ∧ W'.drew.cell? ⟨(ad.add (k * 8)).block, (ad.add (k * 8)).off + 4, none⟩ = some (.slice y.m.eA y.m.ex.length y.m.eC) ∧ W'.drew.cell? ⟨(ad.add (k * 8)).block, (ad.add (k * 8)).off + 5, none⟩ = some (.slice y.m.iA y.m.im.length y.m.iC) ∧ W'.drew.cell? ⟨(ad.add (k * 8)).block, (ad.add (k * 8)).off + 6, none⟩ = some (.slice y.m.pA y.m.pa.length y.m.pC) ∧ W'.drew.cell? ⟨(ad.add (k * 8)).block, (ad.add (k * 8)).off + 7, none⟩ = some (.int .i64 y.first) ∧ W'.drew.cell? ⟨(ad.add (j * 8)).block, (ad.add (j * 8)).off + 7, none⟩ = some (.int .i64 z)) from fun W' ⟨b, a0, a1, a2, a3, a4, a5, a6, a7, a8⟩ => ⟨b.drew, a0, a1, a2, a3, a4, a5, a6, a7, a8⟩)
        have HCS := Lib.hid (show ∀ W' W2 : World, (Below wr.heap.size wr W' ∧ W'.cell? (ad.add (k * 8)) = some (.string y.m.name) ∧ W'.cell? ⟨(ad.add (k * 8)).block, (ad.add (k * 8)).off + 1, none⟩ = some (.int .i64 y.m.major) ∧ W'.cell? ⟨(ad.add (k * 8)).block, (ad.add (k * 8)).off + 2, none⟩ = some (.int .i64 y.m.minor) ∧ W'.cell? ⟨(ad.add (k * 8)).block, (ad.add (k * 8)).off + 3, none⟩ = some (.string y.m.text) ∧ W'.cell? ⟨(ad.add (k * 8)).block, (ad.add (k * 8)).off + 4, none⟩ = some (.slice y.m.eA y.m.ex.length y.m.eC) ∧ W'.cell? ⟨(ad.add (k * 8)).block, (ad.add (k * 8)).off + 5, none⟩ = some (.slice y.m.iA y.m.im.length y.m.iC) ∧ W'.cell? ⟨(ad.add (k * 8)).block, (ad.add (k * 8)).off + 6, none⟩ = some (.slice y.m.pA y.m.pa.length y.m.pC) ∧ W'.cell? ⟨(ad.add (k * 8)).block, (ad.add (k * 8)).off + 7, none⟩ = some (.int .i64 y.first) ∧ W'.cell? ⟨(ad.add (j * 8)).block, (ad.add (j * 8)).off + 7, none⟩ = some (.int .i64 z)) → Below W'.heap.size W' W2 → (Below wr.heap.size wr W2 ∧ W2.cell? (ad.add (k * 8)) = some (.string y.m.name) ∧ W2.cell? ⟨(ad.add (k * 8)).block, (ad.add (k * 8)).off + 1, none⟩ = some (.int .i64 y.m.major) ∧ W2.cell? ⟨(ad.add (k * 8)).block, (ad.add (k * 8)).off + 2, none⟩ = some (.int .i64 y.m.minor) ∧ W2.cell? ⟨(ad.add (k * 8)).block, (ad.add (k * 8)).off + 3, none⟩ = some (.string y.m.text) ∧ W2.cell? ⟨(ad.add (k * 8)).block, (ad.add (k * 8)).off + 4, none⟩ = some (.slice y.m.eA y.m.ex.length y.m.eC) ∧ W2.cell? ⟨(ad.add (k * 8)).block, (ad.add (k * 8)).off + 5, none⟩ = some (.slice y.m.iA y.m.im.length y.m.iC) ∧ W2.cell? ⟨(ad.add (k * 8)).block, (ad.add (k * 8)).off + 6, none⟩ = some (.slice y.m.pA y.m.pa.length y.m.pC) ∧ W2.cell? ⟨(ad.add (k * 8)).block, (ad.add (k * 8)).off + 7, none⟩ = some (.int .i64 y.first) ∧ W2.cell? ⟨(ad.add (j * 8)).block, (ad.add (j * 8)).off + 7, none⟩ = some (.int .i64 z)) from fun W' W2 ⟨b, a0, a1, a2, a3, a4, a5, a6, a7, a8⟩ hb => have s := b.size; ⟨b.trans (hb.mono s), (hb.cell (by first | omega | (simp; omega) | (simp only [block_of_add]; omega))).trans a0, (hb.cell (by first | omega | (simp; omega) | (simp only [block_of_add]; omega))).trans a1, (hb.cell (by first | omega | (simp; omega) | (simp only [block_of_add]; omega))).trans a2, (hb.cell (by first | omega | (simp; omega) | (simp only [block_of_add]; omega))).trans a3, (hb.cell (by first | omega | (simp; omega) | (simp only [block_of_add]; omega))).trans a4, (hb.cell (by first | omega | (simp; omega) | (simp only [block_of_add]; omega))).trans a5, (hb.cell (by first | omega | (simp; omega) | (simp only [block_of_add]; omega))).trans a6, (hb.cell (by first | omega | (simp; omega) | (simp only [block_of_add]; omega))).trans a7, (hb.cell (by first | omega | (simp; omega) | (simp only [block_of_add]; omega))).trans a8⟩)
        have HCA := Lib.hid (show ∀ (W' : World) (o : Obj), (Below wr.heap.size wr W' ∧ W'.cell? (ad.add (k * 8)) = some (.string y.m.name) ∧ W'.cell? ⟨(ad.add (k * 8)).block, (ad.add (k * 8)).off + 1, none⟩ = some (.int .i64 y.m.major) ∧ W'.cell? ⟨(ad.add (k * 8)).block, (ad.add (k * 8)).off + 2, none⟩ = some (.int .i64 y.m.minor) ∧ W'.cell? ⟨(ad.add (k * 8)).block, (ad.add (k * 8)).off + 3, none⟩ = some (.string y.m.text) ∧ W'.cell? ⟨(ad.add (k * 8)).block, (ad.add (k * 8)).off + 4, none⟩ = some (.slice y.m.eA y.m.ex.length y.m.eC) ∧ W'.cell? ⟨(ad.add (k * 8)).block, (ad.add (k * 8)).off + 5, none⟩ = some (.slice y.m.iA y.m.im.length y.m.iC) ∧ W'.cell? ⟨(ad.add (k * 8)).block, (ad.add (k * 8)).off + 6, none⟩ = some (.slice y.m.pA y.m.pa.length y.m.pC) ∧ W'.cell? ⟨(ad.add (k * 8)).block, (ad.add (k * 8)).off + 7, none⟩ = some (.int .i64 y.first) ∧ W'.cell? ⟨(ad.add (j * 8)).block, (ad.add (j * 8)).off + 7, none⟩ = some (.int .i64 z)) → (Below wr.heap.size wr (W'.alloc o) ∧ (W'.alloc o).cell? (ad.add (k * 8)) = some (.string y.m.name) ∧ (W'.alloc o).cell? ⟨(ad.add (k * 8)).block, (ad.add (k * 8)).off + 1, none⟩ = some (.int .i64 y.m.major) ∧ (W'.alloc o).cell? ⟨(ad.add (k * 8)).block, (ad.add (k * 8)).off + 2, none⟩ = some (.int .i64 y.m.minor) ∧ (W'.alloc o).cell? ⟨(ad.add (k * 8)).block, (ad.add (k * 8)).off + 3, none⟩ = some (.string y.m.text) ∧ (W'.alloc o).cell? ⟨(ad.add (k * 8)).block, (ad.add (k * 8)).off + 4, none⟩ = some (.slice y.m.eA y.m.ex.length y.m.eC) ∧ (W'.alloc o).cell? ⟨(ad.add (k * 8)).block, (ad.add (k * 8)).off + 5, none⟩ = some (.slice y.m.iA y.m.im.length y.m.iC) ∧ (W'.alloc o).cell? ⟨(ad.add (k * 8)).block, (ad.add (k * 8)).off + 6, none⟩ = some (.slice y.m.pA y.m.pa.length y.m.pC) ∧ (W'.alloc o).cell? ⟨(ad.add (k * 8)).block, (ad.add (k * 8)).off + 7, none⟩ = some (.int .i64 y.first) ∧ (W'.alloc o).cell? ⟨(ad.add (j * 8)).block, (ad.add (j * 8)).off + 7, none⟩ = some (.int .i64 z)) from fun W' o hc => HCS.out W' (W'.alloc o) hc ((Below.refl _ _).alloc (Nat.le_refl _) o))
        have HCL := Lib.hid (show ∀ W' : World, (Below wr.heap.size wr W' ∧ W'.cell? (ad.add (k * 8)) = some (.string y.m.name) ∧ W'.cell? ⟨(ad.add (k * 8)).block, (ad.add (k * 8)).off + 1, none⟩ = some (.int .i64 y.m.major) ∧ W'.cell? ⟨(ad.add (k * 8)).block, (ad.add (k * 8)).off + 2, none⟩ = some (.int .i64 y.m.minor) ∧ W'.cell? ⟨(ad.add (k * 8)).block, (ad.add (k * 8)).off + 3, none⟩ = some (.string y.m.text) ∧ W'.cell? ⟨(ad.add (k * 8)).block, (ad.add (k * 8)).off + 4, none⟩ = some (.slice y.m.eA y.m.ex.length y.m.eC) ∧ W'.cell? ⟨(ad.add (k * 8)).block, (ad.add (k * 8)).off + 5, none⟩ = some (.slice y.m.iA y.m.im.length y.m.iC) ∧ W'.cell? ⟨(ad.add (k * 8)).block, (ad.add (k * 8)).off + 6, none⟩ = some (.slice y.m.pA y.m.pa.length y.m.pC) ∧ W'.cell? ⟨(ad.add (k * 8)).block, (ad.add (k * 8)).off + 7, none⟩ = some (.int .i64 y.first) ∧ W'.cell? ⟨(ad.add (j * 8)).block, (ad.add (j * 8)).off + 7, none⟩ = some (.int .i64 z)) → Below wr.heap.size wr W' from fun W' hc => hc.1)
        clear hk h0 h1 h2 h3 h4 h5 h6 h7 g0 g1 g2 g3 g4 g5 g6 g7 hb
        by_cases t1 : z < N
        · have e1 := Lib.hid ((adjFrom_bad hlt hj1 (show l[j].first < endOf l[j - 1] by rw [show l[j - 1] = l[k]'hkl from HK.out hlt, ← HZ.out, ← HY.out, ← HN.out]; exact t1)).symm.trans HE.out)
          go_wp2_with fail
          go_region_held3 (fun W' => Below wr.heap.size wr W' ∧ W'.cell? (ad.add (k * 8)) = some (.string y.m.name) ∧ W'.cell? ⟨(ad.add (k * 8)).block, (ad.add (k * 8)).off + 1, none⟩ = some (.int .i64 y.m.major) ∧ W'.cell? ⟨(ad.add (k * 8)).block, (ad.add (k * 8)).off + 2, none⟩ = some (.int .i64 y.m.minor) ∧ W'.cell? ⟨(ad.add (k * 8)).block, (ad.add (k * 8)).off + 3, none⟩ = some (.string y.m.text) ∧ W'.cell? ⟨(ad.add (k * 8)).block, (ad.add (k * 8)).off + 4, none⟩ = some (.slice y.m.eA y.m.ex.length y.m.eC) ∧ W'.cell? ⟨(ad.add (k * 8)).block, (ad.add (k * 8)).off + 5, none⟩ = some (.slice y.m.iA y.m.im.length y.m.iC) ∧ W'.cell? ⟨(ad.add (k * 8)).block, (ad.add (k * 8)).off + 6, none⟩ = some (.slice y.m.pA y.m.pa.length y.m.pC) ∧ W'.cell? ⟨(ad.add (k * 8)).block, (ad.add (k * 8)).off + 7, none⟩ = some (.int .i64 y.first) ∧ W'.cell? ⟨(ad.add (j * 8)).block, (ad.add (j * 8)).off + 7, none⟩ = some (.int .i64 z)) (first | exact HC0.out | exact HCD.out _ HC0.out | exact HCS.out _ _ (by assumption) (by assumption) | exact HCS.out _ _ HC0.out (by assumption) | exact HCS.out _ _ (HCD.out _ HC0.out) (by assumption) | exact HCS.out _ _ (HCD.out _ (by assumption)) (by assumption) | exact HCD.out _ (by assumption) | exact HCA.out _ _ (by assumption) | exact HCA.out _ _ HC0.out | exact HCA.out _ _ (HCD.out _ HC0.out) | exact HCD.out _ (HCA.out _ _ (by assumption)) | assumption) (first | (go_at_call 16; refine (cE.out _).mono ?_; rintro e w3 ⟨rfl, hb3⟩))
          have hB := HCL.out _ (by assumption)
          clear HC0 HCD HCS HCA
          go_wp2_with fail
          go_ret
          exact ⟨ret_int (e1.out.trans HR.out.symm), HB.out.trans (hB.mono (by omega))⟩
        · have e1 := Lib.hid ((adjFrom_next hlt hj1 (show ¬ l[j].first < endOf l[j - 1] by rw [show l[j - 1] = l[k]'hkl from HK.out hlt, ← HZ.out, ← HY.out, ← HN.out]; exact t1)).trans HE.out)
          have t1' : decide (z < N) = false := by simp; omega
          clear t1
          go_wp2_with fail
          go_region_held3 (fun W' => Below wr.heap.size wr W' ∧ W'.cell? (ad.add (k * 8)) = some (.string y.m.name) ∧ W'.cell? ⟨(ad.add (k * 8)).block, (ad.add (k * 8)).off + 1, none⟩ = some (.int .i64 y.m.major) ∧ W'.cell? ⟨(ad.add (k * 8)).block, (ad.add (k * 8)).off + 2, none⟩ = some (.int .i64 y.m.minor) ∧ W'.cell? ⟨(ad.add (k * 8)).block, (ad.add (k * 8)).off + 3, none⟩ = some (.string y.m.text) ∧ W'.cell? ⟨(ad.add (k * 8)).block, (ad.add (k * 8)).off + 4, none⟩ = some (.slice y.m.eA y.m.ex.length y.m.eC) ∧ W'.cell? ⟨(ad.add (k * 8)).block, (ad.add (k * 8)).off + 5, none⟩ = some (.slice y.m.iA y.m.im.length y.m.iC) ∧ W'.cell? ⟨(ad.add (k * 8)).block, (ad.add (k * 8)).off + 6, none⟩ = some (.slice y.m.pA y.m.pa.length y.m.pC) ∧ W'.cell? ⟨(ad.add (k * 8)).block, (ad.add (k * 8)).off + 7, none⟩ = some (.int .i64 y.first) ∧ W'.cell? ⟨(ad.add (j * 8)).block, (ad.add (j * 8)).off + 7, none⟩ = some (.int .i64 z)) (first | exact HC0.out | exact HCD.out _ HC0.out | exact HCS.out _ _ (by assumption) (by assumption) | exact HCS.out _ _ HC0.out (by assumption) | exact HCS.out _ _ (HCD.out _ HC0.out) (by assumption) | exact HCS.out _ _ (HCD.out _ (by assumption)) (by assumption) | exact HCD.out _ (by assumption) | exact HCA.out _ _ (by assumption) | exact HCA.out _ _ HC0.out | exact HCA.out _ _ (HCD.out _ HC0.out) | exact HCD.out _ (HCA.out _ _ (by assumption)) | assumption) (first | (go_at_call 16; refine (cE.out _).mono ?_; rintro e w3 ⟨rfl, hb3⟩))
          have hB := HCL.out _ (by assumption)
          clear HC0 HCD HCS HCA
          go_wp2_with fail
          go_roundw
          case rel => exact ⟨j + 1, by omega, by omega, by go_num, e1.out, HB.out.trans (hB.mono (by omega))⟩
          case measure => (simp [intOf]; try omega)
      · have e1 := Lib.hid ((adjFrom_end hlt).symm.trans HE.out)
        go_wp2_with fail
        go_ret
        exact ⟨ret_int (e1.out.trans HR.out.symm), HB.out⟩
  · rw [if_pos t0] at hR
    have HR := Lib.hid hR
    have t0' : (E != 0) = true := by simp [t0]
    clear hE hR t0
    go_enter Try.func15, Try.ntmps15
    go_wp2_with (first | (go_at_call 46; refine (c1.out).mono ?_; rintro e w2 ⟨rfl, hb2⟩))
    go_ret
    exact ⟨ret_int HR.out.symm, hb2⟩

end Go.Proofs.Ytdpacbdejfjkcaa
