import Derived.Test.YtjiedaialianmaaGreatG17
import Derived.Test.YtjiedaialianmaaGreatG15
import Derived.Test.YtjiedaialianmaaGreatG11

namespace Go.Proofs.YtjiedaialianmaaGreat
open Go.RowKit Go.Lib

/-- what the document's answer is: a registry that tells so much, and an errno -/
def DocRes (w : World) (F : Int) (k : Krn) (L : List Plc) (e : Ending) (w' : World) : Prop :=
  (∃ k' A' l' c', e = .returned (.tuple #[rgV k' A' l' c', .int .i64 F]) ∧ RgThere w' k' A' l' ∧ k'.bare = (wK F k).bare ∧ bares l' = bares (wL F L) ∧ k' = wK F k ∧ l' = wL F L ∧ PlcOwn w' w.heap.size (.slice A' l'.length c') l') ∧ Below w.heap.size w w'
theorem doc_none {w w' : World} {F : Int} {k : Krn} {L : List Plc} (h : F ≠ 0) (hb : Below w.heap.size w w') : DocRes w F k L (.returned (.tuple #[.agg #[.int .i64 0, .int .i64 0, .slice none 0 0, .slice none 0 0], .int .i64 F])) w' :=
  ⟨⟨noKrn, none, [], 0, rfl, ⟨noKrn_ok _, ⟨Row.nil, Nat.zero_le _, by simp⟩⟩, by rw [wKE h], by rw [wLE h], (wKE h k).symm, (wLE h L).symm, World.ownsRow_nil _ _ _ _⟩, hb⟩
/-- the registry's row is stored anew in its box -/
theorem doc_store {w w5 : World} {k : Krn} {A A5 : Option Addr} {l L : List Plc} {c c5 b5 nR : Nat} (hb : Below w.heap.size w w5) (hG : w5.heap[w.heap.size]? = some (.cells #[.int .i64 k.major, .int .i64 k.minor, .slice k.eA k.ex.length k.eC, .slice A l.length c] 39 (0, 0)))
    (hR : w5.heap[w.heap.size + nR]? = some (.cells #[.int .i64 0, .int .i64 0, .slice none 0 0, .slice none 0 0] 39 (0, 0))) (hn : 0 < nR) (ho : PlcOwn w5 b5 (.slice A5 L.length c5) L) (hL : ∀ x ∈ L, x.m.ok w) (hlen : L.length ≤ big) (hk : k.ok w) :
    ∃ w6, w6 = w5.setCell ⟨w.heap.size, 3, none⟩ (.slice A5 L.length c5) ∧ Hid (w6.heap[w.heap.size]? = some (.cells #[.int .i64 k.major, .int .i64 k.minor, .slice k.eA k.ex.length k.eC, .slice A5 L.length c5] 39 (0, 0))) ∧
      Hid (w6.heap[w.heap.size + nR]? = some (.cells #[.int .i64 0, .int .i64 0, .slice none 0 0, .slice none 0 0] 39 (0, 0))) ∧ Hid (Below w.heap.size w w6) ∧ Hid (RgThere w6 k A5 L) ∧ Hid (PlcOwn w6 b5 (.slice A5 L.length c5) L) := by
  obtain ⟨w6, hw6⟩ : ∃ w6, w6 = w5.setCell ⟨w.heap.size, 3, none⟩ (.slice A5 L.length c5) := ⟨_, rfl⟩
  have ho6 : Only w.heap.size w5 w6 := hw6 ▸ Only.set 3 _
  have hb6 : Below w.heap.size w w6 := hb.trans (ho6.below (Nat.le_of_lt (Array.getElem?_eq_some_iff.1 hG).1))
  have hg6 : w6.heap[w.heap.size]? = _ := hw6 ▸ heap_setCell_same w5 w.heap.size 3 _ _ (.slice A5 L.length c5) hG
  have hown := own_kp ho (ho6.kp hG (ts := [39]) (by simp)) (by decide)
  exact ⟨w6, hw6, Lib.hid hg6, Lib.hid ((ho6.block _ (Array.getElem?_eq_some_iff.1 hR).1 (by omega)).trans hR), Lib.hid hb6, Lib.hid ⟨hk.below hb6, ⟨Reads.of_own hown, hlen, fun x hx => (hL x hx).below hb6⟩⟩, Lib.hid hown⟩

set_option maxHeartbeats 8000000 in
set_option maxRecDepth 100000 in
theorem InstallOf_any (k : Krn) (A : Option Addr) (c : Nat) (l : List Plc) (m : Mod) (w : World) (hk : k.ok w) (h : PlsOk w A l) (hm : m.ok w) (hrg : rgErr k l = 0) :
    Calls Tryz.prog 39 #[rgV k A l c, m.v] w (DocRes w (cmErr k ⟨1, m, ⟨#[]⟩⟩ l) k (instL l m)) := by
  obtain ⟨w0, hw0⟩ : ∃ w0, w0 = w.alloc (.cells #[.int .i64 k.major, .int .i64 k.minor, .slice k.eA k.ex.length k.eC, .slice A l.length c] 39) := ⟨_, rfl⟩
  have hb0 : Below w.heap.size w w0 := hw0 ▸ (Below.refl _ _).alloc (Nat.le_refl _) _
  have hz0 : w0.heap.size = w.heap.size + 1 := by rw [hw0]; simp
  have hG0 : w0.heap[w.heap.size]? = some (.cells #[.int .i64 k.major, .int .i64 k.minor, .slice k.eA k.ex.length k.eC, .slice A l.length c] 39 (0, 0)) := by rw [hw0]; exact heap_alloc_new w _
  obtain ⟨x0, hx0⟩ : ∃ x0, x0 = w0.alloc (.cells #[.string m.name, .int .i64 m.major, .int .i64 m.minor, .string m.text, .slice m.eA m.ex.length m.eC, .slice m.iA m.im.length m.iC, .slice m.pA m.pa.length m.pC] 70) := ⟨_, rfl⟩
  obtain ⟨y0, hy0⟩ : ∃ y0, y0 = x0.alloc (.cells #[.int .i64 0, .int .i64 0, .slice none 0 0, .slice none 0 0] 39) := ⟨_, rfl⟩
  have hbx : Below w0.heap.size w0 x0 := hx0 ▸ (Below.refl _ _).alloc (Nat.le_refl _) _
  have hby : Below x0.heap.size x0 y0 := hy0 ▸ (Below.refl _ _).alloc (Nat.le_refl _) _
  have hzx : x0.heap.size = w.heap.size + 2 := by rw [hx0]; simp; omega
  have hM0 : x0.heap[w.heap.size + 1]? = some (.cells #[.string m.name, .int .i64 m.major, .int .i64 m.minor, .string m.text, .slice m.eA m.ex.length m.eC, .slice m.iA m.im.length m.iC, .slice m.pA m.pa.length m.pC] 70 (0, 0)) := by rw [hx0, ← hz0]; exact heap_alloc_new w0 _
  have HG0 := Lib.hid ((hby.block w.heap.size (by omega)).trans ((hbx.block w.heap.size (by omega)).trans hG0))
  have HM0 := Lib.hid ((hby.block (w.heap.size + 1) (by omega)).trans hM0)
  have HR0 := Lib.hid (show y0.heap[w.heap.size + 2]? = some (.cells #[.int .i64 0, .int .i64 0, .slice none 0 0, .slice none 0 0] 39 (0, 0)) by rw [hy0, ← hzx]; exact heap_alloc_new x0 _)
  have HB0 := Lib.hid ((hb0.trans (hbx.mono hb0.size)).trans (hby.mono (Nat.le_trans hb0.size hbx.size)))
  obtain ⟨n0, n1, n2, n3, n4, n5, n6⟩ := box_mod HM0.out
  obtain ⟨_, k0, k1, k2, k3, _⟩ := rgcells HG0.out
  have hreg := rg_reg hrg
  have h8 := (reg_row hreg).1
  have HP := Lib.hid h
  have HK := Lib.hid hk
  have c1 := Lib.hid (CheckModule_any m y0 (hm.below HB0.out))
  have c2 := Lib.hid (fun W (hb : Below w.heap.size w W) => PlaceOf_any A c l m.name W (h.below hb).row h.len)
  have c3 := Lib.hid (fun W => SizeOf_any m W hm.text)
  have c4 := Lib.hid (fun W (hb : Below w.heap.size w W) => FitOf_any A c l (manyOf m) W (h.below hb) hreg)
  have c5 := Lib.hid (fun W (hb : Below w.heap.size w W) => with_any A c l m (fitIn (manyOf m) (runsOf l)) W (h.below hb) (by omega))
  have hfl : instL l m = withL l m (fitIn (manyOf m) (runsOf l)) := rfl
  rw [← hfl] at c5
  obtain ⟨F, hF⟩ : ∃ F, F = cmErr k ⟨1, m, ⟨#[]⟩⟩ l := ⟨_, rfl⟩
  have hce : F = if instPre l m ≠ 0 then instPre l m else rgErr k (instL l m) := hF
  obtain ⟨L, hL⟩ : ∃ L, L = instL l m := ⟨_, rfl⟩
  have HLO := Lib.hid (show ∀ x ∈ L, x.m.ok w from fun x hx => by
    rw [hL, hfl] at hx
    rcases withL_mem.1 hx with rfl | hx
    · exact hm
    · exact h.each x hx)
  have HLL := Lib.hid (show L.length ≤ big by rw [hL, hfl, withL_length]; unfold big; omega)
  rw [← hF]
  rw [← hL] at c5 hce ⊢
  have cases := inst_cases l m
  obtain ⟨E, hE⟩ : ∃ E, E = instPre l m := ⟨_, rfl⟩
  rw [← hE] at cases hce
  obtain ⟨M, hM⟩ : ∃ M, M = modErr m := ⟨_, rfl⟩
  rw [← hM] at c1 cases
  obtain ⟨ix, hix⟩ : ∃ ix, ix = idxOf (named m.name) l := ⟨_, rfl⟩
  rw [← hix] at c2 cases
  obtain ⟨mm, hmm⟩ : ∃ mm, mm = manyOf m := ⟨_, rfl⟩
  rw [← hmm] at c3 c4 c5 cases
  obtain ⟨fi, hfi⟩ : ∃ fi, fi = fitIn mm (runsOf l) := ⟨_, rfl⟩
  rw [← hfi] at c4 c5 cases
  have hw0' := hw0.symm
  have hx0' := hx0.symm
  have hy0' := hy0.symm
  clear hw0 hx0 hy0 hb0 hbx hby hG0 hM0 hk h hm hF hL hfl hE hM hix hmm hfi hrg hreg h8
  have HCE := Lib.hid hce
  clear hce
  rcases cases with ⟨t1, rfl⟩ | ⟨rfl, t2, rfl⟩ | ⟨rfl, t2, t3, rfl⟩ | ⟨rfl, t2, t3, rfl⟩
  · have hFE : F = E := by rw [HCE.out, if_pos t1]
    subst hFE
    have t1' : (F != 0) = true := by simp [t1]
    have T := Lib.hid t1
    clear t1
    go_enter Tryz.func39, Tryz.ntmps39
    go_wp2_with fail
    refine (c1.out).mono ?_; rintro e w1 ⟨rfl, hb1⟩
    have HR1 := Lib.hid (blk' hb1 HR0.out)
    have HB1 := Lib.hid (HB0.out.trans (hb1.mono HB0.out.size))
    clear hb1
    obtain ⟨_, zr0, zr1, zr2, zr3, zf0, zf1, zf2, zf3⟩ := rgcells HR1.out
    go_wp2_with fail
    obtain ⟨hg, ho⟩ := set4 HR1.out (.int .i64 0) (.int .i64 0) (.slice none 0 0) (.slice none 0 0)
    refine bodyPost_ret (results_cell_tmp rfl _ _ (w.heap.size + 2) 39 _ (0, 0) _ rfl hg Tryz.underlying39 rfl Tryz.sizeReg) rfl ?_
    exact doc_none T.out (HB1.out.trans ((ho.below (Nat.le_of_lt (Array.getElem?_eq_some_iff.1 HR1.out).1)).mono (by omega)))
  · have hFE : F = 6 := by rw [HCE.out, if_pos (by decide)]
    subst hFE
    have t' : decide (0 ≤ ix) = true := decide_eq_true t2
    have T := Lib.hid (show (6 : Int) ≠ 0 by decide)
    clear t2
    go_enter Tryz.func39, Tryz.ntmps39
    go_wp2_with fail
    refine (c1.out).mono ?_; rintro e w1 ⟨rfl, hb1⟩
    have HR1 := Lib.hid (blk' hb1 HR0.out)
    have HG1 := Lib.hid (blk' hb1 HG0.out)
    have HM1 := Lib.hid (blk' hb1 HM0.out)
    have HB1 := Lib.hid (HB0.out.trans (hb1.mono HB0.out.size))
    obtain ⟨_, a0, a1, a2, a3, _⟩ := rgcells HG1.out
    obtain ⟨b0, b1, b2, b3, b4, b5, b6⟩ := box_mod HM1.out
    clear hb1 n0 n1 n2 n3 n4 n5 n6 k0 k1 k2 k3
    go_wp2_with fail
    refine (c2.out _ HB1.out).mono ?_; rintro e w2 ⟨rfl, hb2⟩
    have HR2 := Lib.hid (blk' hb2 HR1.out)
    have HG2 := Lib.hid (blk' hb2 HG1.out)
    have HM2 := Lib.hid (blk' hb2 HM1.out)
    have HB2 := Lib.hid (HB1.out.trans (hb2.mono HB1.out.size))
    obtain ⟨_, a0, a1, a2, a3, _⟩ := rgcells HG2.out
    obtain ⟨b0, b1, b2, b3, b4, b5, b6⟩ := box_mod HM2.out
    clear hb2
    obtain ⟨_, zr0, zr1, zr2, zr3, zf0, zf1, zf2, zf3⟩ := rgcells HR2.out
    go_wp2_with fail
    obtain ⟨hg, ho⟩ := set4 HR2.out (.int .i64 0) (.int .i64 0) (.slice none 0 0) (.slice none 0 0)
    refine bodyPost_ret (results_cell_tmp rfl _ _ (w.heap.size + 2) 39 _ (0, 0) _ rfl hg Tryz.underlying39 rfl Tryz.sizeReg) rfl ?_
    exact doc_none T.out (HB2.out.trans ((ho.below (Nat.le_of_lt (Array.getElem?_eq_some_iff.1 HR2.out).1)).mono (by omega)))
  · have hFE : F = 2 := by rw [HCE.out, if_pos (by decide)]
    subst hFE
    have t' : decide (0 ≤ ix) = false := decide_eq_false t2
    have T := Lib.hid (show (2 : Int) ≠ 0 by decide)
    have t4 : ((l.length : Int) == 8) = true := by have := t3.out; simp; omega
    clear t2
    go_enter Tryz.func39, Tryz.ntmps39
    go_wp2_with fail
    refine (c1.out).mono ?_; rintro e w1 ⟨rfl, hb1⟩
    have HR1 := Lib.hid (blk' hb1 HR0.out)
    have HG1 := Lib.hid (blk' hb1 HG0.out)
    have HM1 := Lib.hid (blk' hb1 HM0.out)
    have HB1 := Lib.hid (HB0.out.trans (hb1.mono HB0.out.size))
    obtain ⟨_, a0, a1, a2, a3, _⟩ := rgcells HG1.out
    obtain ⟨b0, b1, b2, b3, b4, b5, b6⟩ := box_mod HM1.out
    clear hb1 n0 n1 n2 n3 n4 n5 n6 k0 k1 k2 k3
    go_wp2_with fail
    refine (c2.out _ HB1.out).mono ?_; rintro e w2 ⟨rfl, hb2⟩
    have HR2 := Lib.hid (blk' hb2 HR1.out)
    have HG2 := Lib.hid (blk' hb2 HG1.out)
    have HM2 := Lib.hid (blk' hb2 HM1.out)
    have HB2 := Lib.hid (HB1.out.trans (hb2.mono HB1.out.size))
    obtain ⟨_, a0, a1, a2, a3, _⟩ := rgcells HG2.out
    obtain ⟨b0, b1, b2, b3, b4, b5, b6⟩ := box_mod HM2.out
    clear hb2
    obtain ⟨_, zr0, zr1, zr2, zr3, zf0, zf1, zf2, zf3⟩ := rgcells HR2.out
    go_wp2_with fail
    obtain ⟨hg, ho⟩ := set4 HR2.out (.int .i64 0) (.int .i64 0) (.slice none 0 0) (.slice none 0 0)
    refine bodyPost_ret (results_cell_tmp rfl _ _ (w.heap.size + 2) 39 _ (0, 0) _ rfl hg Tryz.underlying39 rfl Tryz.sizeReg) rfl ?_
    exact doc_none T.out (HB2.out.trans ((ho.below (Nat.le_of_lt (Array.getElem?_eq_some_iff.1 HR2.out).1)).mono (by omega)))
  · have t' : decide (0 ≤ ix) = false := decide_eq_false t2
    have t4 : ((l.length : Int) == 8) = false := by have := t3.out; simp; omega
    clear t2
    go_enter Tryz.func39, Tryz.ntmps39
    go_wp2_with fail
    refine (c1.out).mono ?_; rintro e w1 ⟨rfl, hb1⟩
    have HR1 := Lib.hid (blk' hb1 HR0.out)
    have HG1 := Lib.hid (blk' hb1 HG0.out)
    have HM1 := Lib.hid (blk' hb1 HM0.out)
    have HB1 := Lib.hid (HB0.out.trans (hb1.mono HB0.out.size))
    obtain ⟨_, a0, a1, a2, a3, _⟩ := rgcells HG1.out
    obtain ⟨b0, b1, b2, b3, b4, b5, b6⟩ := box_mod HM1.out
    clear hb1 n0 n1 n2 n3 n4 n5 n6 k0 k1 k2 k3
    go_wp2_with fail
    refine (c2.out _ HB1.out).mono ?_; rintro e w2 ⟨rfl, hb2⟩
    have HR2 := Lib.hid (blk' hb2 HR1.out)
    have HG2 := Lib.hid (blk' hb2 HG1.out)
    have HM2 := Lib.hid (blk' hb2 HM1.out)
    have HB2 := Lib.hid (HB1.out.trans (hb2.mono HB1.out.size))
    obtain ⟨_, a0, a1, a2, a3, _⟩ := rgcells HG2.out
    obtain ⟨b0, b1, b2, b3, b4, b5, b6⟩ := box_mod HM2.out
    clear hb2
    have hl2 := (Array.getElem?_eq_some_iff.1 HG2.out).1
    have hm2 := (Array.getElem?_eq_some_iff.1 HM2.out).1
    have HC0 := Lib.hid (show Below w2.heap.size w2 w2 ∧ w2.cell? ⟨w.heap.size, 3, none⟩ = some (.slice A l.length c) ∧ w2.cell? ⟨(w.heap.size + 1), 0, none⟩ = some (.string m.name) ∧ w2.cell? ⟨(w.heap.size + 1), 1, none⟩ = some (.int .i64 m.major) ∧ w2.cell? ⟨(w.heap.size + 1), 2, none⟩ = some (.int .i64 m.minor) ∧ w2.cell? ⟨(w.heap.size + 1), 3, none⟩ = some (.string m.text) ∧ w2.cell? ⟨(w.heap.size + 1), 4, none⟩ = some (.slice m.eA m.ex.length m.eC) ∧ w2.cell? ⟨(w.heap.size + 1), 5, none⟩ = some (.slice m.iA m.im.length m.iC) ∧ w2.cell? ⟨(w.heap.size + 1), 6, none⟩ = some (.slice m.pA m.pa.length m.pC) from ⟨Below.refl _ _, by assumption, by assumption, by assumption, by assumption, by assumption, by assumption, by assumption, by assumption⟩)
    have HCD := Lib.hid (show ∀ W' : World, (Below w2.heap.size w2 W' ∧ W'.cell? ⟨w.heap.size, 3, none⟩ = some (.slice A l.length c) ∧ W'.cell? ⟨(w.heap.size + 1), 0, none⟩ = some (.string m.name) ∧ W'.cell? ⟨(w.heap.size + 1), 1, none⟩ = some (.int .i64 m.major) ∧ W'.cell? ⟨(w.heap.size + 1), 2, none⟩ = some (.int .i64 m.minor) ∧ W'.cell? ⟨(w.heap.size + 1), 3, none⟩ = some (.string m.text) ∧ W'.cell? ⟨(w.heap.size + 1), 4, none⟩ = some (.slice m.eA m.ex.length m.eC) ∧ W'.cell? ⟨(w.heap.size + 1), 5, none⟩ = some (.slice m.iA m.im.length m.iC) ∧ W'.cell? ⟨(w.heap.size + 1), 6, none⟩ = some (.slice m.pA m.pa.length m.pC)) → (Below w2.heap.size w2 W'.drew ∧ W'.drew.cell? ⟨w.heap.size, 3, none⟩ = some (.slice A l.length c) ∧ W'.drew.cell? ⟨(w.heap.size + 1), 0, none⟩ = some (.string m.name) ∧ W'.drew.cell? ⟨(w.heap.size + 1), 1, none⟩ = some (.int .i64 m.major) ∧ W'.drew.cell? ⟨(w.heap.size + 1), 2, none⟩ = some (.int .i64 m.minor) ∧ W'.drew.cell? ⟨(w.heap.size + 1), 3, none⟩ = some (.string m.text) ∧ W'.drew.cell? ⟨(w.heap.size + 1), 4, none⟩ = some (.slice m.eA m.ex.length m.eC) ∧ W'.drew.cell? ⟨(w.heap.size + 1), 5, none⟩ = some (.slice m.iA m.im.length m.iC) ∧ W'.drew.cell? ⟨(w.heap.size + 1), 6, none⟩ = some (.slice m.pA m.pa.length m.pC)) from fun W' ⟨b, a0, a1, a2, a3, a4, a5, a6, a7⟩ => ⟨b.drew, a0, a1, a2, a3, a4, a5, a6, a7⟩)
    have HCS := Lib.hid (show ∀ W' W2 : World, (Below w2.heap.size w2 W' ∧ W'.cell? ⟨w.heap.size, 3, none⟩ = some (.slice A l.length c) ∧ W'.cell? ⟨(w.heap.size + 1), 0, none⟩ = some (.string m.name) ∧ W'.cell? ⟨(w.heap.size + 1), 1, none⟩ = some (.int .i64 m.major) ∧ W'.cell? ⟨(w.heap.size + 1), 2, none⟩ = some (.int .i64 m.minor) ∧ W'.cell? ⟨(w.heap.size + 1), 3, none⟩ = some (.string m.text) ∧ W'.cell? ⟨(w.heap.size + 1), 4, none⟩ = some (.slice m.eA m.ex.length m.eC) ∧ W'.cell? ⟨(w.heap.size + 1), 5, none⟩ = some (.slice m.iA m.im.length m.iC) ∧ W'.cell? ⟨(w.heap.size + 1), 6, none⟩ = some (.slice m.pA m.pa.length m.pC)) → Below W'.heap.size W' W2 → (Below w2.heap.size w2 W2 ∧ W2.cell? ⟨w.heap.size, 3, none⟩ = some (.slice A l.length c) ∧ W2.cell? ⟨(w.heap.size + 1), 0, none⟩ = some (.string m.name) ∧ W2.cell? ⟨(w.heap.size + 1), 1, none⟩ = some (.int .i64 m.major) ∧ W2.cell? ⟨(w.heap.size + 1), 2, none⟩ = some (.int .i64 m.minor) ∧ W2.cell? ⟨(w.heap.size + 1), 3, none⟩ = some (.string m.text) ∧ W2.cell? ⟨(w.heap.size + 1), 4, none⟩ = some (.slice m.eA m.ex.length m.eC) ∧ W2.cell? ⟨(w.heap.size + 1), 5, none⟩ = some (.slice m.iA m.im.length m.iC) ∧ W2.cell? ⟨(w.heap.size + 1), 6, none⟩ = some (.slice m.pA m.pa.length m.pC)) from fun W' W2 ⟨b, a0, a1, a2, a3, a4, a5, a6, a7⟩ hb => have s := b.size; ⟨b.trans (hb.mono s), (hb.cell (by first | omega | (simp; omega) | (simp only [block_of_add]; omega))).trans a0, (hb.cell (by first | omega | (simp; omega) | (simp only [block_of_add]; omega))).trans a1, (hb.cell (by first | omega | (simp; omega) | (simp only [block_of_add]; omega))).trans a2, (hb.cell (by first | omega | (simp; omega) | (simp only [block_of_add]; omega))).trans a3, (hb.cell (by first | omega | (simp; omega) | (simp only [block_of_add]; omega))).trans a4, (hb.cell (by first | omega | (simp; omega) | (simp only [block_of_add]; omega))).trans a5, (hb.cell (by first | omega | (simp; omega) | (simp only [block_of_add]; omega))).trans a6, (hb.cell (by first | omega | (simp; omega) | (simp only [block_of_add]; omega))).trans a7⟩)
    have HCA := Lib.hid (show ∀ (W' : World) (o : Obj), (Below w2.heap.size w2 W' ∧ W'.cell? ⟨w.heap.size, 3, none⟩ = some (.slice A l.length c) ∧ W'.cell? ⟨(w.heap.size + 1), 0, none⟩ = some (.string m.name) ∧ W'.cell? ⟨(w.heap.size + 1), 1, none⟩ = some (.int .i64 m.major) ∧ W'.cell? ⟨(w.heap.size + 1), 2, none⟩ = some (.int .i64 m.minor) ∧ W'.cell? ⟨(w.heap.size + 1), 3, none⟩ = some (.string m.text) ∧ W'.cell? ⟨(w.heap.size + 1), 4, none⟩ = some (.slice m.eA m.ex.length m.eC) ∧ W'.cell? ⟨(w.heap.size + 1), 5, none⟩ = some (.slice m.iA m.im.length m.iC) ∧ W'.cell? ⟨(w.heap.size + 1), 6, none⟩ = some (.slice m.pA m.pa.length m.pC)) → (Below w2.heap.size w2 (W'.alloc o) ∧ (W'.alloc o).cell? ⟨w.heap.size, 3, none⟩ = some (.slice A l.length c) ∧ (W'.alloc o).cell? ⟨(w.heap.size + 1), 0, none⟩ = some (.string m.name) ∧ (W'.alloc o).cell? ⟨(w.heap.size + 1), 1, none⟩ = some (.int .i64 m.major) ∧ (W'.alloc o).cell? ⟨(w.heap.size + 1), 2, none⟩ = some (.int .i64 m.minor) ∧ (W'.alloc o).cell? ⟨(w.heap.size + 1), 3, none⟩ = some (.string m.text) ∧ (W'.alloc o).cell? ⟨(w.heap.size + 1), 4, none⟩ = some (.slice m.eA m.ex.length m.eC) ∧ (W'.alloc o).cell? ⟨(w.heap.size + 1), 5, none⟩ = some (.slice m.iA m.im.length m.iC) ∧ (W'.alloc o).cell? ⟨(w.heap.size + 1), 6, none⟩ = some (.slice m.pA m.pa.length m.pC)) from fun W' o hc => HCS.out W' (W'.alloc o) hc ((Below.refl _ _).alloc (Nat.le_refl _) o))
    have HCX := Lib.hid (show ∀ (W' : World) (bX oX : Nat) (vX : Value), w2.heap.size ≤ bX → (Below w2.heap.size w2 W' ∧ W'.cell? ⟨w.heap.size, 3, none⟩ = some (.slice A l.length c) ∧ W'.cell? ⟨(w.heap.size + 1), 0, none⟩ = some (.string m.name) ∧ W'.cell? ⟨(w.heap.size + 1), 1, none⟩ = some (.int .i64 m.major) ∧ W'.cell? ⟨(w.heap.size + 1), 2, none⟩ = some (.int .i64 m.minor) ∧ W'.cell? ⟨(w.heap.size + 1), 3, none⟩ = some (.string m.text) ∧ W'.cell? ⟨(w.heap.size + 1), 4, none⟩ = some (.slice m.eA m.ex.length m.eC) ∧ W'.cell? ⟨(w.heap.size + 1), 5, none⟩ = some (.slice m.iA m.im.length m.iC) ∧ W'.cell? ⟨(w.heap.size + 1), 6, none⟩ = some (.slice m.pA m.pa.length m.pC)) → (Below w2.heap.size w2 (W'.setCell ⟨bX, oX, none⟩ vX) ∧ (W'.setCell ⟨bX, oX, none⟩ vX).cell? ⟨w.heap.size, 3, none⟩ = some (.slice A l.length c) ∧ (W'.setCell ⟨bX, oX, none⟩ vX).cell? ⟨(w.heap.size + 1), 0, none⟩ = some (.string m.name) ∧ (W'.setCell ⟨bX, oX, none⟩ vX).cell? ⟨(w.heap.size + 1), 1, none⟩ = some (.int .i64 m.major) ∧ (W'.setCell ⟨bX, oX, none⟩ vX).cell? ⟨(w.heap.size + 1), 2, none⟩ = some (.int .i64 m.minor) ∧ (W'.setCell ⟨bX, oX, none⟩ vX).cell? ⟨(w.heap.size + 1), 3, none⟩ = some (.string m.text) ∧ (W'.setCell ⟨bX, oX, none⟩ vX).cell? ⟨(w.heap.size + 1), 4, none⟩ = some (.slice m.eA m.ex.length m.eC) ∧ (W'.setCell ⟨bX, oX, none⟩ vX).cell? ⟨(w.heap.size + 1), 5, none⟩ = some (.slice m.iA m.im.length m.iC) ∧ (W'.setCell ⟨bX, oX, none⟩ vX).cell? ⟨(w.heap.size + 1), 6, none⟩ = some (.slice m.pA m.pa.length m.pC)) from fun W' bX oX vX hbX ⟨b, a0, a1, a2, a3, a4, a5, a6, a7⟩ => ⟨b.setCell (p := ⟨bX, oX, none⟩) hbX vX, (((Below.refl _ _).setCell (p := ⟨bX, oX, none⟩) hbX vX).cell (by first | omega | (simp; omega) | (simp only [block_of_add]; omega))).trans a0, (((Below.refl _ _).setCell (p := ⟨bX, oX, none⟩) hbX vX).cell (by first | omega | (simp; omega) | (simp only [block_of_add]; omega))).trans a1, (((Below.refl _ _).setCell (p := ⟨bX, oX, none⟩) hbX vX).cell (by first | omega | (simp; omega) | (simp only [block_of_add]; omega))).trans a2, (((Below.refl _ _).setCell (p := ⟨bX, oX, none⟩) hbX vX).cell (by first | omega | (simp; omega) | (simp only [block_of_add]; omega))).trans a3, (((Below.refl _ _).setCell (p := ⟨bX, oX, none⟩) hbX vX).cell (by first | omega | (simp; omega) | (simp only [block_of_add]; omega))).trans a4, (((Below.refl _ _).setCell (p := ⟨bX, oX, none⟩) hbX vX).cell (by first | omega | (simp; omega) | (simp only [block_of_add]; omega))).trans a5, (((Below.refl _ _).setCell (p := ⟨bX, oX, none⟩) hbX vX).cell (by first | omega | (simp; omega) | (simp only [block_of_add]; omega))).trans a6, (((Below.refl _ _).setCell (p := ⟨bX, oX, none⟩) hbX vX).cell (by first | omega | (simp; omega) | (simp only [block_of_add]; omega))).trans a7⟩)
    have HCL := Lib.hid (show ∀ W' : World, (Below w2.heap.size w2 W' ∧ W'.cell? ⟨w.heap.size, 3, none⟩ = some (.slice A l.length c) ∧ W'.cell? ⟨(w.heap.size + 1), 0, none⟩ = some (.string m.name) ∧ W'.cell? ⟨(w.heap.size + 1), 1, none⟩ = some (.int .i64 m.major) ∧ W'.cell? ⟨(w.heap.size + 1), 2, none⟩ = some (.int .i64 m.minor) ∧ W'.cell? ⟨(w.heap.size + 1), 3, none⟩ = some (.string m.text) ∧ W'.cell? ⟨(w.heap.size + 1), 4, none⟩ = some (.slice m.eA m.ex.length m.eC) ∧ W'.cell? ⟨(w.heap.size + 1), 5, none⟩ = some (.slice m.iA m.im.length m.iC) ∧ W'.cell? ⟨(w.heap.size + 1), 6, none⟩ = some (.slice m.pA m.pa.length m.pC)) → Below w2.heap.size w2 W' from fun W' hc => hc.1)
    go_wp2_with fail
    go_region_held3 (fun W' => Below w2.heap.size w2 W' ∧ W'.cell? ⟨w.heap.size, 3, none⟩ = some (.slice A l.length c) ∧ W'.cell? ⟨(w.heap.size + 1), 0, none⟩ = some (.string m.name) ∧ W'.cell? ⟨(w.heap.size + 1), 1, none⟩ = some (.int .i64 m.major) ∧ W'.cell? ⟨(w.heap.size + 1), 2, none⟩ = some (.int .i64 m.minor) ∧ W'.cell? ⟨(w.heap.size + 1), 3, none⟩ = some (.string m.text) ∧ W'.cell? ⟨(w.heap.size + 1), 4, none⟩ = some (.slice m.eA m.ex.length m.eC) ∧ W'.cell? ⟨(w.heap.size + 1), 5, none⟩ = some (.slice m.iA m.im.length m.iC) ∧ W'.cell? ⟨(w.heap.size + 1), 6, none⟩ = some (.slice m.pA m.pa.length m.pC)) (first | exact HC0.out | exact HCD.out _ HC0.out | exact HCS.out _ _ (by assumption) (by assumption) | exact HCS.out _ _ HC0.out (by assumption) | exact HCS.out _ _ (HCD.out _ HC0.out) (by assumption) | exact HCS.out _ _ (HCD.out _ (by assumption)) (by assumption) | exact HCD.out _ (by assumption) | exact HCA.out _ _ (by assumption) | exact HCA.out _ _ HC0.out | exact HCA.out _ _ (HCD.out _ HC0.out) | exact HCD.out _ (HCA.out _ _ (by assumption)) | exact HCA.out _ _ (HCS.out _ _ HC0.out (by assumption)) | exact HCA.out _ _ (HCS.out _ _ (HCD.out _ HC0.out) (by assumption)) | exact HCX.out _ _ _ _ (Nat.le_refl _) (by assumption) | exact HCX.out _ _ _ _ (Nat.le_refl _) (HCS.out _ _ (HCA.out _ _ HC0.out) (by assumption)) | exact HCX.out _ _ _ _ (Nat.le_refl _) (HCS.out _ _ (HCD.out _ (HCA.out _ _ HC0.out)) (by assumption)) | assumption) (first | (go_at_call 107; (with_reducible refine (c3.out _).mono ?_); rintro e w3 ⟨rfl, hb3⟩) | (go_at_call 106; (with_reducible refine (c4.out _ (HB2.out.trans ((HCL.out _ (by first | assumption | exact HCS.out _ _ (by assumption) (by assumption) | exact HCS.out _ _ HC0.out (by assumption) | exact HCS.out _ _ (HCD.out _ HC0.out) (by assumption))).mono HB2.out.size))).mono ?_); rintro e w4 ⟨rfl, hb4⟩))
    have hb24 := HCL.out w4 (by assumption)
    have HR4 := Lib.hid (blk' hb24 HR2.out)
    have HG4 := Lib.hid (blk' hb24 HG2.out)
    have HM4 := Lib.hid (blk' hb24 HM2.out)
    have HB4 := Lib.hid (HB2.out.trans (hb24.mono HB2.out.size))
    obtain ⟨_, a0, a1, a2, a3, _⟩ := rgcells HG4.out
    obtain ⟨b0, b1, b2, b3, b4, b5, b6⟩ := box_mod HM4.out
    clear hb24 hb4 HC0 HCD HCS HCA HCX HCL hl2 hm2
    by_cases t : fi < 0
    · have hFE : F = 8 := by rw [HCE.out, if_pos t, if_pos (by decide)]
      subst hFE
      have t5 : decide (fi < 0) = true := decide_eq_true t
      have T := Lib.hid (show (8 : Int) ≠ 0 by decide)
      clear t
      obtain ⟨_, zr0, zr1, zr2, zr3, zf0, zf1, zf2, zf3⟩ := rgcells HR4.out
      go_wp2_with fail
      obtain ⟨hg, ho⟩ := set4 HR4.out (.int .i64 0) (.int .i64 0) (.slice none 0 0) (.slice none 0 0)
      refine bodyPost_ret (results_cell_tmp rfl _ _ (w.heap.size + 2) 39 _ (0, 0) _ rfl hg Tryz.underlying39 rfl Tryz.sizeReg) rfl ?_
      exact doc_none T.out (HB4.out.trans ((ho.below (Nat.le_of_lt (Array.getElem?_eq_some_iff.1 HR4.out).1)).mono (by omega)))
    · have hFE : F = rgErr k L := by rw [HCE.out, if_neg t, if_neg (by decide)]
      have HF := Lib.hid hFE
      have t5 : decide (fi < 0) = false := decide_eq_false t
      clear t hFE
      go_wp2_with fail
      refine (c5.out _ HB4.out).mono ?_; rintro e w5 ⟨⟨A5, c5', rfl, ho5⟩, hb5⟩
      have HO5 := Lib.hid (show PlcOwn w5 w.heap.size _ _ from ownM_le ho5 HB4.out.size)
      have HR5 := Lib.hid (blk' hb5 HR4.out)
      have HG5 := Lib.hid (blk' hb5 HG4.out)
      have HB5 := Lib.hid (HB4.out.trans (hb5.mono HB4.out.size))
      clear ho5 hb5 a0 a1 a2 a3 b0 b1 b2 b3 b4 b5 b6
      obtain ⟨_, g0, g1, g2, g3, gf0, gf1, gf2, gf3⟩ := rgcells HG5.out
      go_wp2_with fail
      obtain ⟨w8, e8, HG8, HR8, HB8, HT8, HO8⟩ := doc_store (nR := 2) HB5.out HG5.out HR5.out (by omega) HO5.out HLO.out HLL.out HK.out
      rw [← e8]
      clear e8 g0 g1 g2 g3 gf0 gf1 gf2 gf3
      obtain ⟨_, g0, g1, g2, g3, _⟩ := rgcells HG8.out
      have cC := Lib.hid (CheckRegistry_any k A5 c5' L w8 HT8.out.1 HT8.out.2)
      rw [← HF.out] at cC
      try go_wp2_with fail
      refine (cC.out).mono ?_; rintro e w9 ⟨rfl, hb9⟩
      have HR9 := Lib.hid (blk' hb9 HR8.out)
      have HG9 := Lib.hid (blk' hb9 HG8.out)
      have HB9 := Lib.hid (HB8.out.trans (hb9.mono HB8.out.size))
      have HT9 := Lib.hid (HT8.out.below hb9)
      have HO9 := Lib.hid (ownM_below HO8.out hb9)
      clear hb9 cC g0 g1 g2 g3
      by_cases t : F = 0
      · subst t
        obtain ⟨_, g0, g1, g2, g3, _⟩ := rgcells HG9.out
        obtain ⟨_, zr0, zr1, zr2, zr3, zf0, zf1, zf2, zf3⟩ := rgcells HR9.out
        go_wp2_with fail
        obtain ⟨hg, ho⟩ := set4 HR9.out (.int .i64 k.major) (.int .i64 k.minor) (.slice k.eA k.ex.length k.eC) (.slice A5 L.length c5')
        refine bodyPost_ret (results_cell_tmp rfl _ _ (w.heap.size + 2) 39 _ (0, 0) _ rfl hg Tryz.underlying39 rfl Tryz.sizeReg) rfl ?_
        exact ⟨⟨k, A5, L, c5', rfl, HT9.out.other ⟨_, _, _, _, _, _, _, _, HR9.out⟩ ho, rfl, rfl, rfl, rfl, own_kp HO9.out (ho.kp HR9.out (ts := [39]) (by simp)) (by decide)⟩, HB9.out.trans ((ho.below (Nat.le_of_lt (Array.getElem?_eq_some_iff.1 HR9.out).1)).mono (by omega))⟩
      · have t' : (F != 0) = true := by simp [t]
        have T := Lib.hid t
        clear t
        obtain ⟨_, zr0, zr1, zr2, zr3, zf0, zf1, zf2, zf3⟩ := rgcells HR9.out
        go_wp2_with fail
        obtain ⟨hg, ho⟩ := set4 HR9.out (.int .i64 0) (.int .i64 0) (.slice none 0 0) (.slice none 0 0)
        refine bodyPost_ret (results_cell_tmp rfl _ _ (w.heap.size + 2) 39 _ (0, 0) _ rfl hg Tryz.underlying39 rfl Tryz.sizeReg) rfl ?_
        exact doc_none T.out (HB9.out.trans ((ho.below (Nat.le_of_lt (Array.getElem?_eq_some_iff.1 HR9.out).1)).mono (by omega)))

set_option maxHeartbeats 8000000 in
set_option maxRecDepth 100000 in
theorem RemoveOf_any (k : Krn) (A : Option Addr) (c : Nat) (l : List Plc) (nm : ByteArray) (w : World) (hk : k.ok w) (h : PlsOk w A l) (hrg : rgErr k l = 0) :
    Calls Tryz.prog 40 #[rgV k A l c, .string nm] w (DocRes w (cmErr k ⟨2, noMod, nm⟩ l) k (remL l nm)) := by
  obtain ⟨w0, hw0⟩ : ∃ w0, w0 = w.alloc (.cells #[.int .i64 k.major, .int .i64 k.minor, .slice k.eA k.ex.length k.eC, .slice A l.length c] 39) := ⟨_, rfl⟩
  have hb0 : Below w.heap.size w w0 := hw0 ▸ (Below.refl _ _).alloc (Nat.le_refl _) _
  have hz0 : w0.heap.size = w.heap.size + 1 := by rw [hw0]; simp
  have hG0 : w0.heap[w.heap.size]? = some (.cells #[.int .i64 k.major, .int .i64 k.minor, .slice k.eA k.ex.length k.eC, .slice A l.length c] 39 (0, 0)) := by rw [hw0]; exact heap_alloc_new w _
  obtain ⟨y0, hy0⟩ : ∃ y0, y0 = w0.alloc (.cells #[.int .i64 0, .int .i64 0, .slice none 0 0, .slice none 0 0] 39) := ⟨_, rfl⟩
  have hby : Below w0.heap.size w0 y0 := hy0 ▸ (Below.refl _ _).alloc (Nat.le_refl _) _
  have HG0 := Lib.hid ((hby.block w.heap.size (by omega)).trans hG0)
  have HR0 := Lib.hid (show y0.heap[w.heap.size + 1]? = some (.cells #[.int .i64 0, .int .i64 0, .slice none 0 0, .slice none 0 0] 39 (0, 0)) by rw [hy0, ← hz0]; exact heap_alloc_new w0 _)
  have HB0 := Lib.hid (hb0.trans (hby.mono hb0.size))
  obtain ⟨_, k0, k1, k2, k3, _⟩ := rgcells HG0.out
  have hreg := rg_reg hrg
  have h8 := (reg_row hreg).1
  have HP := Lib.hid h
  have HK := Lib.hid hk
  have H8 := Lib.hid h8
  have c2 := Lib.hid (fun W (hb : Below w.heap.size w W) => PlaceOf_any A c l nm W (h.below hb).row h.len)
  have c3 := Lib.hid (fun W (hb : Below w.heap.size w W) (i j : Nat) (hi : i < l.length) (hj : j < l.length) => Direct_any A c l i j W (h.below hb) hi hj)
  have c5 := Lib.hid (fun W (hb : Below w.heap.size w W) (j : Nat) => without_any A c l j W (h.below hb) (by omega))
  have HU := Lib.hid (fun (j : Nat) (hj : idxOf (named nm) l = j) => used_doc (rg_nodup hrg) hj)
  have HFI := Lib.hid (fun (j : Nat) (hj : idxOf (named nm) l = j) => find_idx hj)
  obtain ⟨F, hF⟩ : ∃ F, F = cmErr k ⟨2, noMod, nm⟩ l := ⟨_, rfl⟩
  have hce : F = if remPre l nm ≠ 0 then remPre l nm else rgErr k (remL l nm) := hF
  have HRL := Lib.hid (fun (j : Nat) (hj : idxOf (named nm) l = j) => show remL l nm = l.eraseIdx j by unfold remL; rw [hj, Int.toNat_natCast])
  obtain ⟨L, hL⟩ : ∃ L, L = remL l nm := ⟨_, rfl⟩
  have HLO := Lib.hid (show ∀ x ∈ L, x.m.ok w from fun x hx => by
    rw [hL] at hx
    exact h.each x (List.mem_of_mem_eraseIdx hx))
  have HLL := Lib.hid (show L.length ≤ big by rw [hL]; unfold remL; have := List.length_eraseIdx_le l (idxOf (named nm) l).toNat; unfold big; omega)
  rw [← hF]
  rw [← hL] at hce HRL ⊢
  have cases := rem_cases l nm
  obtain ⟨E, hE⟩ : ∃ E, E = remPre l nm := ⟨_, rfl⟩
  rw [← hE] at cases hce
  obtain ⟨ix, hix⟩ : ∃ ix, ix = idxOf (named nm) l := ⟨_, rfl⟩
  rw [← hix] at c2 cases HU HFI HRL
  have hw0' := hw0.symm
  have hy0' := hy0.symm
  clear hw0 hy0 hb0 hby hG0 hk h hF hL hE hix hrg hreg h8
  have HCE := Lib.hid hce
  clear hce
  rcases cases with ⟨t1, rfl⟩ | ⟨j, rfl, hus, rfl⟩ | ⟨j, rfl, hus, rfl⟩
  · have hFE : F = 5 := by rw [HCE.out, if_pos (by decide)]
    subst hFE
    have t' : decide (ix < 0) = true := decide_eq_true t1
    have T := Lib.hid (show (5 : Int) ≠ 0 by decide)
    clear t1
    go_enter Tryz.func40, Tryz.ntmps40
    go_wp2_with fail
    refine (c2.out _ HB0.out).mono ?_; rintro e w2 ⟨rfl, hb2⟩
    have HR2 := Lib.hid (blk' hb2 HR0.out)
    have HB2 := Lib.hid (HB0.out.trans (hb2.mono HB0.out.size))
    clear hb2
    obtain ⟨_, zr0, zr1, zr2, zr3, zf0, zf1, zf2, zf3⟩ := rgcells HR2.out
    go_wp2_with fail
    obtain ⟨hg, ho⟩ := set4 HR2.out (.int .i64 0) (.int .i64 0) (.slice none 0 0) (.slice none 0 0)
    refine bodyPost_ret (results_cell_tmp rfl _ _ (w.heap.size + 1) 39 _ (0, 0) _ rfl hg Tryz.underlying39 rfl Tryz.sizeReg) rfl ?_
    exact doc_none T.out (HB2.out.trans ((ho.below (Nat.le_of_lt (Array.getElem?_eq_some_iff.1 HR2.out).1)).mono (by omega)))
  · have hFE : F = 4 := by rw [HCE.out, if_pos (by decide)]
    subst hFE
    have t' : decide ((j : Int) < 0) = false := decide_eq_false (by omega)
    have hjl : j < l.length := by obtain ⟨h, _⟩ := HFI.out j rfl; exact h
    have hud := HU.out j rfl
    rw [hus] at hud
    have HUD := Lib.hid hud
    have HJL := Lib.hid hjl
    clear hud hus
    go_enter Tryz.func40, Tryz.ntmps40
    go_wp2_with fail
    refine (c2.out _ HB0.out).mono ?_; rintro e w2 ⟨rfl, hb2⟩
    have HR2 := Lib.hid (blk' hb2 HR0.out)
    have HG2 := Lib.hid (blk' hb2 HG0.out)
    have HB2 := Lib.hid (HB0.out.trans (hb2.mono HB0.out.size))
    clear hb2 k0 k1 k2 k3 hjl
    go_wp2_with fail
    go_loopw [7] (fun i wr => ∃ q : Nat, q ≤ l.length ∧ i = .int .i64 q ∧ (∀ p, p < q → dirN l p j = false) ∧ Below w2.heap.size w2 wr) (fun i _ => l.length - (intOf i).toNat)
    case atStart => exact ⟨0, by omega, rfl, fun p hp => by omega, Below.refl _ _⟩
    case round =>
      obtain ⟨q, hq, rfl, hn, hb⟩ := hrel
      have HN := Lib.hid hn
      have HBR := Lib.hid (HB2.out.trans (hb.mono HB2.out.size))
      have HB := Lib.hid hb
      have HGR := Lib.hid (blk' hb HG2.out)
      have HRR := Lib.hid (blk' hb HR2.out)
      obtain ⟨_, g0, g1, g2, g3, _⟩ := rgcells HGR.out
      have hl8 : l.length ≤ 8 := H8.out
      clear hn hb
      by_cases hlt : q < l.length
      · have hlt' : (q : Int) < l.length := by omega
        have cD := Lib.hid (c3.out wr HBR.out q j hlt HJL.out)
        have hdn : dirN l q j = asks (l[q]'hlt).m (tx (l[j]'HJL.out).m.name) := by
          unfold dirN
          rw [List.getElem?_eq_getElem hlt]
          show asks _ (nmN l j) = _
          rw [nmN_at HJL.out]
        rw [← hdn] at cD
        clear hdn
        cases hd : dirN l q j
        · rw [hd] at cD
          have HD := Lib.hid hd
          clear hd
          go_wp2_with fail
          refine (cD.out).mono ?_; rintro e w4 ⟨rfl, hb4⟩
          have HB4 := Lib.hid (HB.out.trans (hb4.mono HB.out.size))
          clear hb4
          go_wp2_with fail
          go_roundw
          case rel => exact ⟨q + 1, by omega, by go_num, fun p hp => by rcases Nat.lt_succ_iff_lt_or_eq.1 hp with h | rfl; exact HN.out p h; exact HD.out, HB4.out⟩
          case measure => (simp [intOf]; try omega)
        · rw [hd] at cD
          have T := Lib.hid (show (4 : Int) ≠ 0 by decide)
          clear hd
          go_wp2_with fail
          refine (cD.out).mono ?_; rintro e w4 ⟨rfl, hb4⟩
          have HR4 := Lib.hid (blk' hb4 HRR.out)
          have HB4 := Lib.hid (HBR.out.trans (hb4.mono HBR.out.size))
          clear hb4
          obtain ⟨_, zr0, zr1, zr2, zr3, zf0, zf1, zf2, zf3⟩ := rgcells HR4.out
          go_wp2_with fail
          obtain ⟨hg, ho⟩ := set4 HR4.out (.int .i64 0) (.int .i64 0) (.slice none 0 0) (.slice none 0 0)
          refine bodyPost_ret (results_cell_tmp rfl _ _ (w.heap.size + 1) 39 _ (0, 0) _ rfl hg Tryz.underlying39 rfl Tryz.sizeReg) rfl ?_
          exact doc_none T.out (HB4.out.trans ((ho.below (Nat.le_of_lt (Array.getElem?_eq_some_iff.1 HR4.out).1)).mono (by omega)))
      · exfalso
        have h1 := HUD.out.symm
        rw [List.any_eq_true] at h1
        obtain ⟨p, hp, hpd⟩ := h1
        have := HN.out p (by have := List.mem_range.1 hp; omega)
        rw [this] at hpd; cases hpd
  · have hFE : F = rgErr k L := by rw [HCE.out, if_neg (by decide)]
    have HF := Lib.hid hFE
    clear hFE
    have t' : decide ((j : Int) < 0) = false := decide_eq_false (by omega)
    have hjl : j < l.length := by obtain ⟨h, _⟩ := HFI.out j rfl; exact h
    have hud := HU.out j rfl
    rw [hus] at hud
    have HUD := Lib.hid hud
    have HJL := Lib.hid hjl
    clear hud hus
    go_enter Tryz.func40, Tryz.ntmps40
    go_wp2_with fail
    refine (c2.out _ HB0.out).mono ?_; rintro e w2 ⟨rfl, hb2⟩
    have HR2 := Lib.hid (blk' hb2 HR0.out)
    have HG2 := Lib.hid (blk' hb2 HG0.out)
    have HB2 := Lib.hid (HB0.out.trans (hb2.mono HB0.out.size))
    clear hb2 k0 k1 k2 k3 hjl
    go_wp2_with fail
    go_loopw [7] (fun i wr => ∃ q : Nat, q ≤ l.length ∧ i = .int .i64 q ∧ (∀ p, p < q → dirN l p j = false) ∧ Below w2.heap.size w2 wr) (fun i _ => l.length - (intOf i).toNat)
    case atStart => exact ⟨0, by omega, rfl, fun p hp => by omega, Below.refl _ _⟩
    case round =>
      obtain ⟨q, hq, rfl, hn, hb⟩ := hrel
      have HN := Lib.hid hn
      have HBR := Lib.hid (HB2.out.trans (hb.mono HB2.out.size))
      have HB := Lib.hid hb
      have HGR := Lib.hid (blk' hb HG2.out)
      have HRR := Lib.hid (blk' hb HR2.out)
      obtain ⟨_, g0, g1, g2, g3, _⟩ := rgcells HGR.out
      have hl8 : l.length ≤ 8 := H8.out
      clear hn hb
      by_cases hlt : q < l.length
      · have hlt' : (q : Int) < l.length := by omega
        have cD := Lib.hid (c3.out wr HBR.out q j hlt HJL.out)
        have hdn : dirN l q j = asks (l[q]'hlt).m (tx (l[j]'HJL.out).m.name) := by
          unfold dirN
          rw [List.getElem?_eq_getElem hlt]
          show asks _ (nmN l j) = _
          rw [nmN_at HJL.out]
        rw [← hdn] at cD
        clear hdn
        cases hd : dirN l q j
        · rw [hd] at cD
          have HD := Lib.hid hd
          clear hd
          go_wp2_with fail
          refine (cD.out).mono ?_; rintro e w4 ⟨rfl, hb4⟩
          have HB4 := Lib.hid (HB.out.trans (hb4.mono HB.out.size))
          clear hb4
          go_wp2_with fail
          go_roundw
          case rel => exact ⟨q + 1, by omega, by go_num, fun p hp => by rcases Nat.lt_succ_iff_lt_or_eq.1 hp with h | rfl; exact HN.out p h; exact HD.out, HB4.out⟩
          case measure => (simp [intOf]; try omega)
        · exfalso
          have h1 := HUD.out.symm
          rw [List.any_eq_false] at h1
          exact h1 q (List.mem_range.2 hlt) hd
      · have hlt2 : ¬ ((q : Int) < l.length) := by omega
        clear hlt
        have cW := Lib.hid (c5.out wr HBR.out j)
        rw [← HRL.out j rfl] at cW
        go_wp2_with fail
        refine (cW.out).mono ?_; rintro e w5 ⟨⟨A5, c5', rfl, ho5⟩, hb5⟩
        have HO5 := Lib.hid (show PlcOwn w5 w.heap.size _ _ from ownM_le ho5 HBR.out.size)
        have HR5 := Lib.hid (blk' hb5 HRR.out)
        have HG5 := Lib.hid (blk' hb5 HGR.out)
        have HB5 := Lib.hid (HBR.out.trans (hb5.mono HBR.out.size))
        clear ho5 hb5 g0 g1 g2 g3 cW
        obtain ⟨_, g0, g1, g2, g3, gf0, gf1, gf2, gf3⟩ := rgcells HG5.out
        go_wp2_with fail
        obtain ⟨w8, e8, HG8, HR8, HB8, HT8, HO8⟩ := doc_store (nR := 1) HB5.out HG5.out HR5.out (by omega) HO5.out HLO.out HLL.out HK.out
        rw [← e8]
        clear e8 g0 g1 g2 g3 gf0 gf1 gf2 gf3
        obtain ⟨_, g0, g1, g2, g3, _⟩ := rgcells HG8.out
        have cC := Lib.hid (CheckRegistry_any k A5 c5' L w8 HT8.out.1 HT8.out.2)
        rw [← HF.out] at cC
        try go_wp2_with fail
        refine (cC.out).mono ?_; rintro e w9 ⟨rfl, hb9⟩
        have HR9 := Lib.hid (blk' hb9 HR8.out)
        have HG9 := Lib.hid (blk' hb9 HG8.out)
        have HB9 := Lib.hid (HB8.out.trans (hb9.mono HB8.out.size))
        have HT9 := Lib.hid (HT8.out.below hb9)
        have HO9 := Lib.hid (ownM_below HO8.out hb9)
        clear hb9 cC g0 g1 g2 g3
        by_cases t : F = 0
        · subst t
          obtain ⟨_, g0, g1, g2, g3, _⟩ := rgcells HG9.out
          obtain ⟨_, zr0, zr1, zr2, zr3, zf0, zf1, zf2, zf3⟩ := rgcells HR9.out
          go_wp2_with fail
          obtain ⟨hg, ho⟩ := set4 HR9.out (.int .i64 k.major) (.int .i64 k.minor) (.slice k.eA k.ex.length k.eC) (.slice A5 L.length c5')
          refine bodyPost_ret (results_cell_tmp rfl _ _ (w.heap.size + 1) 39 _ (0, 0) _ rfl hg Tryz.underlying39 rfl Tryz.sizeReg) rfl ?_
          exact ⟨⟨k, A5, L, c5', rfl, HT9.out.other ⟨_, _, _, _, _, _, _, _, HR9.out⟩ ho, rfl, rfl, rfl, rfl, own_kp HO9.out (ho.kp HR9.out (ts := [39]) (by simp)) (by decide)⟩, HB9.out.trans ((ho.below (Nat.le_of_lt (Array.getElem?_eq_some_iff.1 HR9.out).1)).mono (by omega))⟩
        · have t' : (F != 0) = true := by simp [t]
          have T := Lib.hid t
          clear t
          obtain ⟨_, zr0, zr1, zr2, zr3, zf0, zf1, zf2, zf3⟩ := rgcells HR9.out
          go_wp2_with fail
          obtain ⟨hg, ho⟩ := set4 HR9.out (.int .i64 0) (.int .i64 0) (.slice none 0 0) (.slice none 0 0)
          refine bodyPost_ret (results_cell_tmp rfl _ _ (w.heap.size + 1) 39 _ (0, 0) _ rfl hg Tryz.underlying39 rfl Tryz.sizeReg) rfl ?_
          exact doc_none T.out (HB9.out.trans ((ho.below (Nat.le_of_lt (Array.getElem?_eq_some_iff.1 HR9.out).1)).mono (by omega)))

end Go.Proofs.YtjiedaialianmaaGreat
