import Derived.Test.YtdpacbdejfjkcaaLawResolveWithin
import Derived.Test.YtdpacbdejfjkcaaPlcs
/- ResolveOther: another module behind all changes nothing of what is found. No condition. -/
namespace Go.Proofs.Ytdpacbdejfjkcaa
open Go.ChangeShapes Go.WideShapes Go.ChangeAt Go.RowKit Go.WideMaps Go.WideElems
open Go.ChangeMaps (setBlock shut_map_nil open_string shut_string keptBut_setBlock frozen?_setBlock heap_setBlock_same)

theorem addr_more {k : Krn} {l : List Plc} {x : Plc} {i : Imp} (h : (addrOf k l i).2 = 0) : addrOf k (l ++ [x]) i = addrOf k l i := by
  by_cases h0 : i.mod = kernelBytes
  · rw [addr_kernel h0, addr_kernel h0]
  · cases hf : l.find? (named i.mod) with
    | none => rw [addr_none h0 hf] at h; exact absurd h (by simp)
    | some y => rw [addr_some h0 hf, addr_some h0 (x := y) (by rw [List.find?_append, hf]; rfl)]
theorem find_more {k : Krn} {l : List Plc} {x : Plc} {i : Imp} (h : (findOf k l i).2 = 0) (h' : (findOf k (l ++ [x]) i).2 = 0) : findOf k (l ++ [x]) i = findOf k l i := by
  obtain ⟨_, _, h3⟩ := find_ok h
  obtain ⟨_, _, h4⟩ := find_ok h'
  rw [h4, h3, addr_more (by rw [← h3]; exact h)]

set_option maxRecDepth 100000 in
set_option maxHeartbeats 8000000 in
theorem ResolveOther_any (k : Krn) (A : Option Addr) (l : List Plc) (c : Nat) (x : Plc) (i : Imp) (w : World) (hk : k.ok w) (h : PlsOk w A l) (hx : x.m.ok w) (hi : i.mod.size ≤ big ∧ i.name.size ≤ big) :
    Calls Try.prog 8 #[k.v, .slice A l.length c, x.v, i.v] w fun e w' => e = .returned (.bool true) ∧ Below w.heap.size w w' := by
  obtain ⟨wk, hwk⟩ : ∃ wk, wk = w.alloc (.cells #[.int .i64 k.major, .int .i64 k.minor, .slice k.eA k.ex.length k.eC] 50) := ⟨_, rfl⟩
  obtain ⟨g0, g1, g2, hzk, hbk⟩ := box3 hwk
  obtain ⟨wx, hwx⟩ : ∃ wx, wx = wk.alloc (.cells #[.string x.m.name, .int .i64 x.m.major, .int .i64 x.m.minor, .string x.m.text, .slice x.m.eA x.m.ex.length x.m.eC, .slice x.m.iA x.m.im.length x.m.iC, .slice x.m.pA x.m.pa.length x.m.pC, .int .i64 x.first] 46) := ⟨_, rfl⟩
  obtain ⟨e0, e1, e2, e3, e4, e5, e6, e7, hzx, hbx⟩ := box8 hwx
  rw [hzk] at e0 e1 e2 e3 e4 e5 e6 e7 hzx hbx
  obtain ⟨w0, hw0⟩ : ∃ w0, w0 = wx.alloc (.cells #[.string i.mod, .string i.name, .int .i64 i.major, .int .i64 i.minor] 52) := ⟨_, rfl⟩
  obtain ⟨i0, i1, i2, i3, hz0, hb0⟩ := box4 hw0
  rw [hzx] at i0 i1 i2 i3 hz0 hb0
  have hbkx := hbx.trans (hb0.mono (by omega))
  have k0 := (hbkx.cell (p := ⟨w.heap.size, 0, none⟩) (by simp)).trans g0
  have k1 := (hbkx.cell (p := ⟨w.heap.size, 1, none⟩) (by simp)).trans g1
  have k2 := (hbkx.cell (p := ⟨w.heap.size, 2, none⟩) (by simp)).trans g2
  have x0 := (hb0.cell (p := ⟨w.heap.size + 1, 0, none⟩) (by simp)).trans e0
  have x1 := (hb0.cell (p := ⟨w.heap.size + 1, 1, none⟩) (by simp)).trans e1
  have x2 := (hb0.cell (p := ⟨w.heap.size + 1, 2, none⟩) (by simp)).trans e2
  have x3 := (hb0.cell (p := ⟨w.heap.size + 1, 3, none⟩) (by simp)).trans e3
  have x4 := (hb0.cell (p := ⟨w.heap.size + 1, 4, none⟩) (by simp)).trans e4
  have x5 := (hb0.cell (p := ⟨w.heap.size + 1, 5, none⟩) (by simp)).trans e5
  have x6 := (hb0.cell (p := ⟨w.heap.size + 1, 6, none⟩) (by simp)).trans e6
  have x7 := (hb0.cell (p := ⟨w.heap.size + 1, 7, none⟩) (by simp)).trans e7
  have H0 := Lib.hid (show Below w.heap.size w w0 from hbk.trans (hbkx.mono (by omega)))
  have hwk' := hwk.symm
  have hwx' := hwx.symm
  have hw0' := hw0.symm
  have hz1 : w.heap.size + 1 + 1 < w0.heap.size := by omega
  have hz2 : w.heap.size + 1 < w0.heap.size := by omega
  have hz3 : w.heap.size < w0.heap.size := by omega
  clear hwk hwx hw0 hbk hbx hb0 hbkx g0 g1 g2 e0 e1 e2 e3 e4 e5 e6 e7 hz0
  have cF := Lib.hid (fun W (hb : Below w.heap.size w W) => Find_any k A c l i W (hk.below hb) (h.below hb) hi)
  have cG := Lib.hid (fun A' c' W (hb : Below w.heap.size w W) (hp : PlsOk W A' (l ++ [x])) => Find_any k A' c' (l ++ [x]) i W (hk.below hb) hp hi)
  have HP := Lib.hid h
  have HX := Lib.hid hx
  obtain ⟨V, hV⟩ : ∃ V, V = findOf k l i := ⟨_, rfl⟩
  by_cases t1 : V.2 = 0
  · have h8 := Lib.hid ((modsAll_ok (placed_ok (find_ok (hV ▸ t1)).1).2).1)
    obtain ⟨U, hU⟩ : ∃ U, U = findOf k (l ++ [x]) i := ⟨_, rfl⟩
    have hVU : U.2 = 0 → U.1 = V.1 := fun hu => by
      have := find_more (k := k) (l := l) (x := x) (i := i) (hV ▸ t1) (hU ▸ hu)
      rw [hU, hV, this]
    simp only [← hV] at cF
    simp only [← hU, List.length_append, List.length_singleton] at cG
    clear hV hU h hx hk hi
    obtain ⟨n, v2⟩ := V
    obtain ⟨u1, u2⟩ := U
    simp only at t1 cF cG hVU
    obtain rfl := t1
    have hfin : ((u2 != 0) || (u1 == n)) = true := by
      by_cases hu : u2 = 0
      · simp [hVU hu]
      · simp [hu]
    have HFIN := Lib.hid hfin
    clear hfin hVU
    go_enter Try.func8, Try.ntmps8
    go_wp2_with (first | (go_at_call 21; refine (cF.out _ H0.out).mono ?_; rintro e w1 ⟨rfl, hw1⟩; obtain ⟨hcw1, hfw1⟩ := bcell hw1; have hsw1 := hw1.size; have hAw1 : w.heap.size + 1 + 1 < w1.heap.size := (by omega); have hBw1 : w.heap.size + 1 < w1.heap.size := (by omega); have hCw1 : w.heap.size < w1.heap.size := (by omega); have bw1 := H0.out.trans (hw1.mono (by omega))) | (go_at_call 27; refine (resolveBegun_any _).mono ?_; rintro e w2 ⟨rfl, hw2⟩; obtain ⟨hcw2, hfw2⟩ := bcell hw2; have hsw2 := hw2.size; have hAw2 : w.heap.size + 1 + 1 < w2.heap.size := (by omega); have hBw2 : w.heap.size + 1 < w2.heap.size := (by omega); have hCw2 : w.heap.size < w2.heap.size := (by omega); have bw2 := bw1.trans (hw2.mono (by omega))))
    have h8' := h8.out
    have hEmp := Lib.hid (show PlcOwn ((w2.alloc (.cells #[.string x.m.name, .int .i64 x.m.major, .int .i64 x.m.minor, .string x.m.text, .slice x.m.eA x.m.ex.length x.m.eC, .slice x.m.iA x.m.im.length x.m.iC, .slice x.m.pA x.m.pa.length x.m.pC, .int .i64 x.first] 46)).alloc (.cells #[] 46)) w2.heap.size (.slice (some ⟨w2.heap.size + 1, 0, none⟩) 0 0) [] by have := PlcOwn.empty (w2.alloc (.cells #[.string x.m.name, .int .i64 x.m.major, .int .i64 x.m.minor, .string x.m.text, .slice x.m.eA x.m.ex.length x.m.eC, .slice x.m.iA x.m.im.length x.m.iC, .slice x.m.pA x.m.pa.length x.m.pC, .int .i64 x.first] 46)) w2.heap.size (by simp); simpa using this)
    have hLen0 := Lib.hid (show ([] : List Plc).length + l.length ≤ 1000000 by have := h8.out; simp only [List.length_nil]; omega)
    have hLen1 := Lib.hid (show l.length + [x].length ≤ 1000000 by have := h8.out; simp only [List.length_singleton]; omega)
    have hLen2 := Lib.hid (show (l ++ [x]).length ≤ big by have := h8.out; simp only [List.length_append, List.length_singleton]; unfold big; omega)
    have hEach := Lib.hid (show ∀ W, Below w.heap.size w W → ∀ y ∈ l ++ [x], y.m.ok W from fun W hb y hy => by
      rcases List.mem_append.1 hy with h | h
      · exact (HP.out.each y h).below hb
      · rw [List.mem_singleton.1 h]; exact HX.out.below hb)
    have hch := Lib.hid (hw1.trans (hw2.mono (by omega)))
    have ck0 := (hch.out.cell (p := ⟨w.heap.size, 0, none⟩) (by simp; omega)).trans k0
    have ck1 := (hch.out.cell (p := ⟨w.heap.size, 1, none⟩) (by simp; omega)).trans k1
    have ck2 := (hch.out.cell (p := ⟨w.heap.size, 2, none⟩) (by simp; omega)).trans k2
    have cx0 := (hch.out.cell (p := ⟨w.heap.size + 1, 0, none⟩) (by simp; omega)).trans x0
    have cx1 := (hch.out.cell (p := ⟨w.heap.size + 1, 1, none⟩) (by simp; omega)).trans x1
    have cx2 := (hch.out.cell (p := ⟨w.heap.size + 1, 2, none⟩) (by simp; omega)).trans x2
    have cx3 := (hch.out.cell (p := ⟨w.heap.size + 1, 3, none⟩) (by simp; omega)).trans x3
    have cx4 := (hch.out.cell (p := ⟨w.heap.size + 1, 4, none⟩) (by simp; omega)).trans x4
    have cx5 := (hch.out.cell (p := ⟨w.heap.size + 1, 5, none⟩) (by simp; omega)).trans x5
    have cx6 := (hch.out.cell (p := ⟨w.heap.size + 1, 6, none⟩) (by simp; omega)).trans x6
    have cx7 := (hch.out.cell (p := ⟨w.heap.size + 1, 7, none⟩) (by simp; omega)).trans x7
    have ci0 := (hch.out.cell (p := ⟨w.heap.size + 1 + 1, 0, none⟩) (by simp; omega)).trans i0
    have ci1 := (hch.out.cell (p := ⟨w.heap.size + 1 + 1, 1, none⟩) (by simp; omega)).trans i1
    have ci2 := (hch.out.cell (p := ⟨w.heap.size + 1 + 1, 2, none⟩) (by simp; omega)).trans i2
    have ci3 := (hch.out.cell (p := ⟨w.heap.size + 1 + 1, 3, none⟩) (by simp; omega)).trans i3
    have HC0 := Lib.hid (show (Below w2.heap.size w2 w2 ∧ w2.cell? ⟨w.heap.size, 0, none⟩ = some (.int .i64 k.major) ∧ w2.cell? ⟨w.heap.size, 1, none⟩ = some (.int .i64 k.minor) ∧ w2.cell? ⟨w.heap.size, 2, none⟩ = some (.slice k.eA k.ex.length k.eC) ∧ w2.cell? ⟨w.heap.size + 1, 0, none⟩ = some (.string x.m.name) ∧ w2.cell? ⟨w.heap.size + 1, 1, none⟩ = some (.int .i64 x.m.major) ∧ w2.cell? ⟨w.heap.size + 1, 2, none⟩ = some (.int .i64 x.m.minor) ∧ w2.cell? ⟨w.heap.size + 1, 3, none⟩ = some (.string x.m.text) ∧ w2.cell? ⟨w.heap.size + 1, 4, none⟩ = some (.slice x.m.eA x.m.ex.length x.m.eC) ∧ w2.cell? ⟨w.heap.size + 1, 5, none⟩ = some (.slice x.m.iA x.m.im.length x.m.iC) ∧ w2.cell? ⟨w.heap.size + 1, 6, none⟩ = some (.slice x.m.pA x.m.pa.length x.m.pC) ∧ w2.cell? ⟨w.heap.size + 1, 7, none⟩ = some (.int .i64 x.first) ∧ w2.cell? ⟨w.heap.size + 1 + 1, 0, none⟩ = some (.string i.mod) ∧ w2.cell? ⟨w.heap.size + 1 + 1, 1, none⟩ = some (.string i.name) ∧ w2.cell? ⟨w.heap.size + 1 + 1, 2, none⟩ = some (.int .i64 i.major) ∧ w2.cell? ⟨w.heap.size + 1 + 1, 3, none⟩ = some (.int .i64 i.minor)) from ⟨Below.refl _ _, ck0, ck1, ck2, cx0, cx1, cx2, cx3, cx4, cx5, cx6, cx7, ci0, ci1, ci2, ci3⟩)
    have HCD := Lib.hid (show ∀ W' : World, (Below w2.heap.size w2 W' ∧ W'.cell? ⟨w.heap.size, 0, none⟩ = some (.int .i64 k.major) ∧ W'.cell? ⟨w.heap.size, 1, none⟩ = some (.int .i64 k.minor) ∧ W'.cell? ⟨w.heap.size, 2, none⟩ = some (.slice k.eA k.ex.length k.eC) ∧ W'.cell? ⟨w.heap.size + 1, 0, none⟩ = some (.string x.m.name) ∧ W'.cell? ⟨w.heap.size + 1, 1, none⟩ = some (.int .i64 x.m.major) ∧ W'.cell? ⟨w.heap.size + 1, 2, none⟩ = some (.int .i64 x.m.minor) ∧ W'.cell? ⟨w.heap.size + 1, 3, none⟩ = some (.string x.m.text) ∧ W'.cell? ⟨w.heap.size + 1, 4, none⟩ = some (.slice x.m.eA x.m.ex.length x.m.eC) ∧ W'.cell? ⟨w.heap.size + 1, 5, none⟩ = some (.slice x.m.iA x.m.im.length x.m.iC) ∧ W'.cell? ⟨w.heap.size + 1, 6, none⟩ = some (.slice x.m.pA x.m.pa.length x.m.pC) ∧ W'.cell? ⟨w.heap.size + 1, 7, none⟩ = some (.int .i64 x.first) ∧ W'.cell? ⟨w.heap.size + 1 + 1, 0, none⟩ = some (.string i.mod) ∧ W'.cell? ⟨w.heap.size + 1 + 1, 1, none⟩ = some (.string i.name) ∧ W'.cell? ⟨w.heap.size + 1 + 1, 2, none⟩ = some (.int .i64 i.major) ∧ W'.cell? ⟨w.heap.size + 1 + 1, 3, none⟩ = some (.int .i64 i.minor)) → (Below w2.heap.size w2 W'.drew ∧ W'.drew.cell? ⟨w.heap.size, 0, none⟩ = some (.int .i64 k.major) ∧ W'.drew.cell? ⟨w.heap.size, 1, none⟩ = some (.int .i64 k.minor) ∧ W'.drew.cell? ⟨w.heap.size, 2, none⟩ = some (.slice k.eA k.ex.length k.eC) ∧ W'.drew.cell? ⟨w.heap.size + 1, 0, none⟩ = some (.string x.m.name) ∧ W'.drew.cell? ⟨w.heap.size + 1, 1, none⟩ = some (.int .i64 x.m.major) ∧ W'.drew.cell? ⟨w.heap.size + 1, 2, none⟩ = some (.int .i64 x.m.minor) ∧ W'.drew.cell? ⟨w.heap.size + 1, 3, none⟩ = some (.string x.m.text) ∧ W'.drew.cell? ⟨w.heap.size + 1, 4, none⟩ = some (.slice x.m.eA x.m.ex.length x.m.eC) ∧ W'.drew.cell? ⟨w.heap.size + 1, 5, none⟩ = some (.slice x.m.iA x.m.im.length x.m.iC) ∧ W'.drew.cell? ⟨w.heap.size + 1, 6, none⟩ = some (.slice x.m.pA x.m.pa.length x.m.pC) ∧ W'.drew.cell? ⟨w.heap.size + 1, 7, none⟩ = some (.int .i64 x.first) ∧ W'.drew.cell? ⟨w.heap.size + 1 + 1, 0, none⟩ = some (.string i.mod) ∧ W'.drew.cell? ⟨w.heap.size + 1 + 1, 1, none⟩ = some (.string i.name) ∧ W'.drew.cell? ⟨w.heap.size + 1 + 1, 2, none⟩ = some (.int .i64 i.major) ∧ W'.drew.cell? ⟨w.heap.size + 1 + 1, 3, none⟩ = some (.int .i64 i.minor)) from fun W' ⟨b, a0, a1, a2, a3, a4, a5, a6, a7, a8, a9, a10, a11, a12, a13, a14⟩ => ⟨b.drew, a0, a1, a2, a3, a4, a5, a6, a7, a8, a9, a10, a11, a12, a13, a14⟩)
    have HCS := Lib.hid (show ∀ W' W2 : World, (Below w2.heap.size w2 W' ∧ W'.cell? ⟨w.heap.size, 0, none⟩ = some (.int .i64 k.major) ∧ W'.cell? ⟨w.heap.size, 1, none⟩ = some (.int .i64 k.minor) ∧ W'.cell? ⟨w.heap.size, 2, none⟩ = some (.slice k.eA k.ex.length k.eC) ∧ W'.cell? ⟨w.heap.size + 1, 0, none⟩ = some (.string x.m.name) ∧ W'.cell? ⟨w.heap.size + 1, 1, none⟩ = some (.int .i64 x.m.major) ∧ W'.cell? ⟨w.heap.size + 1, 2, none⟩ = some (.int .i64 x.m.minor) ∧ W'.cell? ⟨w.heap.size + 1, 3, none⟩ = some (.string x.m.text) ∧ W'.cell? ⟨w.heap.size + 1, 4, none⟩ = some (.slice x.m.eA x.m.ex.length x.m.eC) ∧ W'.cell? ⟨w.heap.size + 1, 5, none⟩ = some (.slice x.m.iA x.m.im.length x.m.iC) ∧ W'.cell? ⟨w.heap.size + 1, 6, none⟩ = some (.slice x.m.pA x.m.pa.length x.m.pC) ∧ W'.cell? ⟨w.heap.size + 1, 7, none⟩ = some (.int .i64 x.first) ∧ W'.cell? ⟨w.heap.size + 1 + 1, 0, none⟩ = some (.string i.mod) ∧ W'.cell? ⟨w.heap.size + 1 + 1, 1, none⟩ = some (.string i.name) ∧ W'.cell? ⟨w.heap.size + 1 + 1, 2, none⟩ = some (.int .i64 i.major) ∧ W'.cell? ⟨w.heap.size + 1 + 1, 3, none⟩ = some (.int .i64 i.minor)) → Below w2.heap.size W' W2 → (Below w2.heap.size w2 W2 ∧ W2.cell? ⟨w.heap.size, 0, none⟩ = some (.int .i64 k.major) ∧ W2.cell? ⟨w.heap.size, 1, none⟩ = some (.int .i64 k.minor) ∧ W2.cell? ⟨w.heap.size, 2, none⟩ = some (.slice k.eA k.ex.length k.eC) ∧ W2.cell? ⟨w.heap.size + 1, 0, none⟩ = some (.string x.m.name) ∧ W2.cell? ⟨w.heap.size + 1, 1, none⟩ = some (.int .i64 x.m.major) ∧ W2.cell? ⟨w.heap.size + 1, 2, none⟩ = some (.int .i64 x.m.minor) ∧ W2.cell? ⟨w.heap.size + 1, 3, none⟩ = some (.string x.m.text) ∧ W2.cell? ⟨w.heap.size + 1, 4, none⟩ = some (.slice x.m.eA x.m.ex.length x.m.eC) ∧ W2.cell? ⟨w.heap.size + 1, 5, none⟩ = some (.slice x.m.iA x.m.im.length x.m.iC) ∧ W2.cell? ⟨w.heap.size + 1, 6, none⟩ = some (.slice x.m.pA x.m.pa.length x.m.pC) ∧ W2.cell? ⟨w.heap.size + 1, 7, none⟩ = some (.int .i64 x.first) ∧ W2.cell? ⟨w.heap.size + 1 + 1, 0, none⟩ = some (.string i.mod) ∧ W2.cell? ⟨w.heap.size + 1 + 1, 1, none⟩ = some (.string i.name) ∧ W2.cell? ⟨w.heap.size + 1 + 1, 2, none⟩ = some (.int .i64 i.major) ∧ W2.cell? ⟨w.heap.size + 1 + 1, 3, none⟩ = some (.int .i64 i.minor)) from fun W' W2 ⟨b, a0, a1, a2, a3, a4, a5, a6, a7, a8, a9, a10, a11, a12, a13, a14⟩ hb =>
      ⟨b.trans hb, (hb.cell (by simp; omega)).trans a0, (hb.cell (by simp; omega)).trans a1, (hb.cell (by simp; omega)).trans a2, (hb.cell (by simp; omega)).trans a3, (hb.cell (by simp; omega)).trans a4, (hb.cell (by simp; omega)).trans a5, (hb.cell (by simp; omega)).trans a6, (hb.cell (by simp; omega)).trans a7, (hb.cell (by simp; omega)).trans a8, (hb.cell (by simp; omega)).trans a9, (hb.cell (by simp; omega)).trans a10, (hb.cell (by simp; omega)).trans a11, (hb.cell (by simp; omega)).trans a12, (hb.cell (by simp; omega)).trans a13, (hb.cell (by simp; omega)).trans a14⟩)
    have HCA := Lib.hid (show ∀ (W' : World) (o : Obj), (Below w2.heap.size w2 W' ∧ W'.cell? ⟨w.heap.size, 0, none⟩ = some (.int .i64 k.major) ∧ W'.cell? ⟨w.heap.size, 1, none⟩ = some (.int .i64 k.minor) ∧ W'.cell? ⟨w.heap.size, 2, none⟩ = some (.slice k.eA k.ex.length k.eC) ∧ W'.cell? ⟨w.heap.size + 1, 0, none⟩ = some (.string x.m.name) ∧ W'.cell? ⟨w.heap.size + 1, 1, none⟩ = some (.int .i64 x.m.major) ∧ W'.cell? ⟨w.heap.size + 1, 2, none⟩ = some (.int .i64 x.m.minor) ∧ W'.cell? ⟨w.heap.size + 1, 3, none⟩ = some (.string x.m.text) ∧ W'.cell? ⟨w.heap.size + 1, 4, none⟩ = some (.slice x.m.eA x.m.ex.length x.m.eC) ∧ W'.cell? ⟨w.heap.size + 1, 5, none⟩ = some (.slice x.m.iA x.m.im.length x.m.iC) ∧ W'.cell? ⟨w.heap.size + 1, 6, none⟩ = some (.slice x.m.pA x.m.pa.length x.m.pC) ∧ W'.cell? ⟨w.heap.size + 1, 7, none⟩ = some (.int .i64 x.first) ∧ W'.cell? ⟨w.heap.size + 1 + 1, 0, none⟩ = some (.string i.mod) ∧ W'.cell? ⟨w.heap.size + 1 + 1, 1, none⟩ = some (.string i.name) ∧ W'.cell? ⟨w.heap.size + 1 + 1, 2, none⟩ = some (.int .i64 i.major) ∧ W'.cell? ⟨w.heap.size + 1 + 1, 3, none⟩ = some (.int .i64 i.minor)) → (Below w2.heap.size w2 (W'.alloc o) ∧ (W'.alloc o).cell? ⟨w.heap.size, 0, none⟩ = some (.int .i64 k.major) ∧ (W'.alloc o).cell? ⟨w.heap.size, 1, none⟩ = some (.int .i64 k.minor) ∧ (W'.alloc o).cell? ⟨w.heap.size, 2, none⟩ = some (.slice k.eA k.ex.length k.eC) ∧ (W'.alloc o).cell? ⟨w.heap.size + 1, 0, none⟩ = some (.string x.m.name) ∧ (W'.alloc o).cell? ⟨w.heap.size + 1, 1, none⟩ = some (.int .i64 x.m.major) ∧ (W'.alloc o).cell? ⟨w.heap.size + 1, 2, none⟩ = some (.int .i64 x.m.minor) ∧ (W'.alloc o).cell? ⟨w.heap.size + 1, 3, none⟩ = some (.string x.m.text) ∧ (W'.alloc o).cell? ⟨w.heap.size + 1, 4, none⟩ = some (.slice x.m.eA x.m.ex.length x.m.eC) ∧ (W'.alloc o).cell? ⟨w.heap.size + 1, 5, none⟩ = some (.slice x.m.iA x.m.im.length x.m.iC) ∧ (W'.alloc o).cell? ⟨w.heap.size + 1, 6, none⟩ = some (.slice x.m.pA x.m.pa.length x.m.pC) ∧ (W'.alloc o).cell? ⟨w.heap.size + 1, 7, none⟩ = some (.int .i64 x.first) ∧ (W'.alloc o).cell? ⟨w.heap.size + 1 + 1, 0, none⟩ = some (.string i.mod) ∧ (W'.alloc o).cell? ⟨w.heap.size + 1 + 1, 1, none⟩ = some (.string i.name) ∧ (W'.alloc o).cell? ⟨w.heap.size + 1 + 1, 2, none⟩ = some (.int .i64 i.major) ∧ (W'.alloc o).cell? ⟨w.heap.size + 1 + 1, 3, none⟩ = some (.int .i64 i.minor)) from fun W' o hc => HCS.out W' (W'.alloc o) hc ((Below.refl _ _).alloc hc.1.size o))
    have HCB := Lib.hid (show ∀ W' : World, (Below w2.heap.size w2 W' ∧ W'.cell? ⟨w.heap.size, 0, none⟩ = some (.int .i64 k.major) ∧ W'.cell? ⟨w.heap.size, 1, none⟩ = some (.int .i64 k.minor) ∧ W'.cell? ⟨w.heap.size, 2, none⟩ = some (.slice k.eA k.ex.length k.eC) ∧ W'.cell? ⟨w.heap.size + 1, 0, none⟩ = some (.string x.m.name) ∧ W'.cell? ⟨w.heap.size + 1, 1, none⟩ = some (.int .i64 x.m.major) ∧ W'.cell? ⟨w.heap.size + 1, 2, none⟩ = some (.int .i64 x.m.minor) ∧ W'.cell? ⟨w.heap.size + 1, 3, none⟩ = some (.string x.m.text) ∧ W'.cell? ⟨w.heap.size + 1, 4, none⟩ = some (.slice x.m.eA x.m.ex.length x.m.eC) ∧ W'.cell? ⟨w.heap.size + 1, 5, none⟩ = some (.slice x.m.iA x.m.im.length x.m.iC) ∧ W'.cell? ⟨w.heap.size + 1, 6, none⟩ = some (.slice x.m.pA x.m.pa.length x.m.pC) ∧ W'.cell? ⟨w.heap.size + 1, 7, none⟩ = some (.int .i64 x.first) ∧ W'.cell? ⟨w.heap.size + 1 + 1, 0, none⟩ = some (.string i.mod) ∧ W'.cell? ⟨w.heap.size + 1 + 1, 1, none⟩ = some (.string i.name) ∧ W'.cell? ⟨w.heap.size + 1 + 1, 2, none⟩ = some (.int .i64 i.major) ∧ W'.cell? ⟨w.heap.size + 1 + 1, 3, none⟩ = some (.int .i64 i.minor)) → Below w.heap.size w W' from fun W' hc => bw2.trans (hc.1.mono (by omega)))
    have HCL := Lib.hid (show ∀ W' : World, (Below w2.heap.size w2 W' ∧ W'.cell? ⟨w.heap.size, 0, none⟩ = some (.int .i64 k.major) ∧ W'.cell? ⟨w.heap.size, 1, none⟩ = some (.int .i64 k.minor) ∧ W'.cell? ⟨w.heap.size, 2, none⟩ = some (.slice k.eA k.ex.length k.eC) ∧ W'.cell? ⟨w.heap.size + 1, 0, none⟩ = some (.string x.m.name) ∧ W'.cell? ⟨w.heap.size + 1, 1, none⟩ = some (.int .i64 x.m.major) ∧ W'.cell? ⟨w.heap.size + 1, 2, none⟩ = some (.int .i64 x.m.minor) ∧ W'.cell? ⟨w.heap.size + 1, 3, none⟩ = some (.string x.m.text) ∧ W'.cell? ⟨w.heap.size + 1, 4, none⟩ = some (.slice x.m.eA x.m.ex.length x.m.eC) ∧ W'.cell? ⟨w.heap.size + 1, 5, none⟩ = some (.slice x.m.iA x.m.im.length x.m.iC) ∧ W'.cell? ⟨w.heap.size + 1, 6, none⟩ = some (.slice x.m.pA x.m.pa.length x.m.pC) ∧ W'.cell? ⟨w.heap.size + 1, 7, none⟩ = some (.int .i64 x.first) ∧ W'.cell? ⟨w.heap.size + 1 + 1, 0, none⟩ = some (.string i.mod) ∧ W'.cell? ⟨w.heap.size + 1 + 1, 1, none⟩ = some (.string i.name) ∧ W'.cell? ⟨w.heap.size + 1 + 1, 2, none⟩ = some (.int .i64 i.major) ∧ W'.cell? ⟨w.heap.size + 1 + 1, 3, none⟩ = some (.int .i64 i.minor)) → Below w2.heap.size w2 W' from fun W' hc => hc.1)
    go_region_held3 (fun W' => Below w2.heap.size w2 W' ∧ W'.cell? ⟨w.heap.size, 0, none⟩ = some (.int .i64 k.major) ∧ W'.cell? ⟨w.heap.size, 1, none⟩ = some (.int .i64 k.minor) ∧ W'.cell? ⟨w.heap.size, 2, none⟩ = some (.slice k.eA k.ex.length k.eC) ∧ W'.cell? ⟨w.heap.size + 1, 0, none⟩ = some (.string x.m.name) ∧ W'.cell? ⟨w.heap.size + 1, 1, none⟩ = some (.int .i64 x.m.major) ∧ W'.cell? ⟨w.heap.size + 1, 2, none⟩ = some (.int .i64 x.m.minor) ∧ W'.cell? ⟨w.heap.size + 1, 3, none⟩ = some (.string x.m.text) ∧ W'.cell? ⟨w.heap.size + 1, 4, none⟩ = some (.slice x.m.eA x.m.ex.length x.m.eC) ∧ W'.cell? ⟨w.heap.size + 1, 5, none⟩ = some (.slice x.m.iA x.m.im.length x.m.iC) ∧ W'.cell? ⟨w.heap.size + 1, 6, none⟩ = some (.slice x.m.pA x.m.pa.length x.m.pC) ∧ W'.cell? ⟨w.heap.size + 1, 7, none⟩ = some (.int .i64 x.first) ∧ W'.cell? ⟨w.heap.size + 1 + 1, 0, none⟩ = some (.string i.mod) ∧ W'.cell? ⟨w.heap.size + 1 + 1, 1, none⟩ = some (.string i.name) ∧ W'.cell? ⟨w.heap.size + 1 + 1, 2, none⟩ = some (.int .i64 i.major) ∧ W'.cell? ⟨w.heap.size + 1 + 1, 3, none⟩ = some (.int .i64 i.minor)) (first | exact HC0.out | exact HCD.out _ (by assumption) | exact HCD.out _ (HCA.out _ _ (by assumption)) | exact HCA.out _ _ (by assumption) | exact HCD.out _ HC0.out | exact HCD.out _ (HCA.out _ _ HC0.out) | exact HCA.out _ _ HC0.out | assumption) (first
      | (have hO := (PlcOwn.empty w2 w2.heap.size (Nat.le_refl _)).drew; have hSS := (HCD.out _ (HCA.out _ (.cells #[] 46) HC0.out)); have hR := HP.out.row.below (HCB.out (w2.alloc (.cells #[] 46)).drew hSS); rw [if_pos (by rfl)]; refine wp_plcs (w2.alloc (.cells #[] 46)).drew (.tmp 28) (.tmp 29) (by rfl) w2.heap.size (.slice (some ⟨w2.heap.size, 0, none⟩) 0 0) [] (by rfl) hO A c l (by rfl) hR hLen0.out (HCL.out _ hSS).size ?_; intro v1 wv1 hown1 hbv1 hg1; have hS1 := HCS.out _ wv1 hSS hbv1; clear hO hSS hR)
      | (have hO := (PlcOwn.empty w2 w2.heap.size (Nat.le_refl _)); have hSS := (HCA.out _ (.cells #[] 46) HC0.out); have hR := HP.out.row.below (HCB.out (w2.alloc (.cells #[] 46)) hSS); rw [if_pos (by rfl)]; refine wp_plcs (w2.alloc (.cells #[] 46)) (.tmp 28) (.tmp 29) (by rfl) w2.heap.size (.slice (some ⟨w2.heap.size, 0, none⟩) 0 0) [] (by rfl) hO A c l (by rfl) hR hLen0.out (HCL.out _ hSS).size ?_; intro v1 wv1 hown1 hbv1 hg1; have hS1 := HCS.out _ wv1 hSS hbv1; clear hO hSS hR)
      | (have hO := ((PlcOwn.empty w2 w2.heap.size (Nat.le_refl _)).alloc (.cells #[.string x.m.name, .int .i64 x.m.major, .int .i64 x.m.minor, .string x.m.text, .slice x.m.eA x.m.ex.length x.m.eC, .slice x.m.iA x.m.im.length x.m.iC, .slice x.m.pA x.m.pa.length x.m.pC, .int .i64 x.first] 46)).drew; have hSS := (HCD.out _ (HCA.out _ (.cells #[.string x.m.name, .int .i64 x.m.major, .int .i64 x.m.minor, .string x.m.text, .slice x.m.eA x.m.ex.length x.m.eC, .slice x.m.iA x.m.im.length x.m.iC, .slice x.m.pA x.m.pa.length x.m.pC, .int .i64 x.first] 46) (HCA.out _ (.cells #[] 46) HC0.out))); have hR := HP.out.row.below (HCB.out ((w2.alloc (.cells #[] 46)).alloc (.cells #[.string x.m.name, .int .i64 x.m.major, .int .i64 x.m.minor, .string x.m.text, .slice x.m.eA x.m.ex.length x.m.eC, .slice x.m.iA x.m.im.length x.m.iC, .slice x.m.pA x.m.pa.length x.m.pC, .int .i64 x.first] 46)).drew hSS); rw [if_pos (by rfl)]; refine wp_plcs ((w2.alloc (.cells #[] 46)).alloc (.cells #[.string x.m.name, .int .i64 x.m.major, .int .i64 x.m.minor, .string x.m.text, .slice x.m.eA x.m.ex.length x.m.eC, .slice x.m.iA x.m.im.length x.m.iC, .slice x.m.pA x.m.pa.length x.m.pC, .int .i64 x.first] 46)).drew (.tmp 28) (.tmp 29) (by rfl) w2.heap.size (.slice (some ⟨w2.heap.size, 0, none⟩) 0 0) [] (by rfl) hO A c l (by rfl) hR hLen0.out (HCL.out _ hSS).size ?_; intro v1 wv1 hown1 hbv1 hg1; have hS1 := HCS.out _ wv1 hSS hbv1; clear hO hSS hR; have hxb := (hg1.block (w2.heap.size + 1) (by simp) (by simp [Value.ownBlock])).trans (heap_alloc2_new w2 (.cells #[] 46) (.cells #[.string x.m.name, .int .i64 x.m.major, .int .i64 x.m.minor, .string x.m.text, .slice x.m.eA x.m.ex.length x.m.eC, .slice x.m.iA x.m.im.length x.m.iC, .slice x.m.pA x.m.pa.length x.m.pC, .int .i64 x.first] 46)))
      | (have hO := ((PlcOwn.empty w2 w2.heap.size (Nat.le_refl _)).alloc (.cells #[.string x.m.name, .int .i64 x.m.major, .int .i64 x.m.minor, .string x.m.text, .slice x.m.eA x.m.ex.length x.m.eC, .slice x.m.iA x.m.im.length x.m.iC, .slice x.m.pA x.m.pa.length x.m.pC, .int .i64 x.first] 46)); have hSS := (HCA.out _ (.cells #[.string x.m.name, .int .i64 x.m.major, .int .i64 x.m.minor, .string x.m.text, .slice x.m.eA x.m.ex.length x.m.eC, .slice x.m.iA x.m.im.length x.m.iC, .slice x.m.pA x.m.pa.length x.m.pC, .int .i64 x.first] 46) (HCA.out _ (.cells #[] 46) HC0.out)); have hR := HP.out.row.below (HCB.out ((w2.alloc (.cells #[] 46)).alloc (.cells #[.string x.m.name, .int .i64 x.m.major, .int .i64 x.m.minor, .string x.m.text, .slice x.m.eA x.m.ex.length x.m.eC, .slice x.m.iA x.m.im.length x.m.iC, .slice x.m.pA x.m.pa.length x.m.pC, .int .i64 x.first] 46)) hSS); rw [if_pos (by rfl)]; refine wp_plcs ((w2.alloc (.cells #[] 46)).alloc (.cells #[.string x.m.name, .int .i64 x.m.major, .int .i64 x.m.minor, .string x.m.text, .slice x.m.eA x.m.ex.length x.m.eC, .slice x.m.iA x.m.im.length x.m.iC, .slice x.m.pA x.m.pa.length x.m.pC, .int .i64 x.first] 46)) (.tmp 28) (.tmp 29) (by rfl) w2.heap.size (.slice (some ⟨w2.heap.size, 0, none⟩) 0 0) [] (by rfl) hO A c l (by rfl) hR hLen0.out (HCL.out _ hSS).size ?_; intro v1 wv1 hown1 hbv1 hg1; have hS1 := HCS.out _ wv1 hSS hbv1; clear hO hSS hR; have hxb := (hg1.block (w2.heap.size + 1) (by simp) (by simp [Value.ownBlock])).trans (heap_alloc2_new w2 (.cells #[] 46) (.cells #[.string x.m.name, .int .i64 x.m.major, .int .i64 x.m.minor, .string x.m.text, .slice x.m.eA x.m.ex.length x.m.eC, .slice x.m.iA x.m.im.length x.m.iC, .slice x.m.pA x.m.pa.length x.m.pC, .int .i64 x.first] 46)))
      | (have hO := hEmp.out.drew; have hSS := (HCD.out _ (HCA.out _ (.cells #[] 46) (HCA.out _ (.cells #[.string x.m.name, .int .i64 x.m.major, .int .i64 x.m.minor, .string x.m.text, .slice x.m.eA x.m.ex.length x.m.eC, .slice x.m.iA x.m.im.length x.m.iC, .slice x.m.pA x.m.pa.length x.m.pC, .int .i64 x.first] 46) HC0.out))); have hR := HP.out.row.below (HCB.out ((w2.alloc (.cells #[.string x.m.name, .int .i64 x.m.major, .int .i64 x.m.minor, .string x.m.text, .slice x.m.eA x.m.ex.length x.m.eC, .slice x.m.iA x.m.im.length x.m.iC, .slice x.m.pA x.m.pa.length x.m.pC, .int .i64 x.first] 46)).alloc (.cells #[] 46)).drew hSS); rw [if_pos (by rfl)]; refine wp_plcs ((w2.alloc (.cells #[.string x.m.name, .int .i64 x.m.major, .int .i64 x.m.minor, .string x.m.text, .slice x.m.eA x.m.ex.length x.m.eC, .slice x.m.iA x.m.im.length x.m.iC, .slice x.m.pA x.m.pa.length x.m.pC, .int .i64 x.first] 46)).alloc (.cells #[] 46)).drew (.tmp 28) (.tmp 29) (by rfl) w2.heap.size (.slice (some ⟨w2.heap.size + 1, 0, none⟩) 0 0) [] (by rfl) hO A c l (by rfl) hR hLen0.out (HCL.out _ hSS).size ?_; intro v1 wv1 hown1 hbv1 hg1; have hS1 := HCS.out _ wv1 hSS hbv1; clear hO hSS hR; have hxb0 := (hg1.block w2.heap.size (by simp; omega) (by simp [Value.ownBlock])).trans (heap_alloc2_old w2 (.cells #[.string x.m.name, .int .i64 x.m.major, .int .i64 x.m.minor, .string x.m.text, .slice x.m.eA x.m.ex.length x.m.eC, .slice x.m.iA x.m.im.length x.m.iC, .slice x.m.pA x.m.pa.length x.m.pC, .int .i64 x.first] 46) (.cells #[] 46)))
      | (have hO := hEmp.out; have hSS := (HCA.out _ (.cells #[] 46) (HCA.out _ (.cells #[.string x.m.name, .int .i64 x.m.major, .int .i64 x.m.minor, .string x.m.text, .slice x.m.eA x.m.ex.length x.m.eC, .slice x.m.iA x.m.im.length x.m.iC, .slice x.m.pA x.m.pa.length x.m.pC, .int .i64 x.first] 46) HC0.out)); have hR := HP.out.row.below (HCB.out ((w2.alloc (.cells #[.string x.m.name, .int .i64 x.m.major, .int .i64 x.m.minor, .string x.m.text, .slice x.m.eA x.m.ex.length x.m.eC, .slice x.m.iA x.m.im.length x.m.iC, .slice x.m.pA x.m.pa.length x.m.pC, .int .i64 x.first] 46)).alloc (.cells #[] 46)) hSS); rw [if_pos (by rfl)]; refine wp_plcs ((w2.alloc (.cells #[.string x.m.name, .int .i64 x.m.major, .int .i64 x.m.minor, .string x.m.text, .slice x.m.eA x.m.ex.length x.m.eC, .slice x.m.iA x.m.im.length x.m.iC, .slice x.m.pA x.m.pa.length x.m.pC, .int .i64 x.first] 46)).alloc (.cells #[] 46)) (.tmp 28) (.tmp 29) (by rfl) w2.heap.size (.slice (some ⟨w2.heap.size + 1, 0, none⟩) 0 0) [] (by rfl) hO A c l (by rfl) hR hLen0.out (HCL.out _ hSS).size ?_; intro v1 wv1 hown1 hbv1 hg1; have hS1 := HCS.out _ wv1 hSS hbv1; clear hO hSS hR; have hxb0 := (hg1.block w2.heap.size (by simp; omega) (by simp [Value.ownBlock])).trans (heap_alloc2_old w2 (.cells #[.string x.m.name, .int .i64 x.m.major, .int .i64 x.m.minor, .string x.m.text, .slice x.m.eA x.m.ex.length x.m.eC, .slice x.m.iA x.m.im.length x.m.iC, .slice x.m.pA x.m.pa.length x.m.pC, .int .i64 x.first] 46) (.cells #[] 46)))
      | (have hO := hown1; have hSS := hS1; have hR := row_block (enc := Plc.cells) (k := 8) (l := [x]) (fun _ => rfl) hxb rfl; rw [if_pos (by rfl)]; refine wp_plcs wv1 (.tmp 30) (.tmp 32) (by rfl) w2.heap.size v1 l (by rfl) hO (some ⟨w2.heap.size + 1, 0, none⟩) 1 [x] (by rfl) hR hLen1.out (HCL.out _ hSS).size ?_; intro v2 wv2 hown2 hbv2 _; have hS2 := HCS.out _ wv2 hSS hbv2; clear hO hSS hR; obtain ⟨A', c', rfl, hrow2⟩ := PlcOwn.row1 hown2)
      | (have hO := hown1.drew; have hSS := (HCD.out _ hS1); have hR := row_block (enc := Plc.cells) (k := 8) (l := [x]) (fun _ => rfl) hxb rfl; rw [if_pos (by rfl)]; refine wp_plcs wv1.drew (.tmp 30) (.tmp 32) (by rfl) w2.heap.size v1 l (by rfl) hO (some ⟨w2.heap.size + 1, 0, none⟩) 1 [x] (by rfl) hR hLen1.out (HCL.out _ hSS).size ?_; intro v2 wv2 hown2 hbv2 _; have hS2 := HCS.out _ wv2 hSS hbv2; clear hO hSS hR; obtain ⟨A', c', rfl, hrow2⟩ := PlcOwn.row1 hown2)
      | (have hO := hown1; have hSS := hS1; have hR := row_block (enc := Plc.cells) (k := 8) (l := [x]) (fun _ => rfl) hxb0 rfl; rw [if_pos (by rfl)]; refine wp_plcs wv1 (.tmp 30) (.tmp 32) (by rfl) w2.heap.size v1 l (by rfl) hO (some ⟨w2.heap.size, 0, none⟩) 1 [x] (by rfl) hR hLen1.out (HCL.out _ hSS).size ?_; intro v2 wv2 hown2 hbv2 _; have hS2 := HCS.out _ wv2 hSS hbv2; clear hO hSS hR; obtain ⟨A', c', rfl, hrow2⟩ := PlcOwn.row1 hown2)
      | (have hO := hown1.drew; have hSS := (HCD.out _ hS1); have hR := row_block (enc := Plc.cells) (k := 8) (l := [x]) (fun _ => rfl) hxb0 rfl; rw [if_pos (by rfl)]; refine wp_plcs wv1.drew (.tmp 30) (.tmp 32) (by rfl) w2.heap.size v1 l (by rfl) hO (some ⟨w2.heap.size, 0, none⟩) 1 [x] (by rfl) hR hLen1.out (HCL.out _ hSS).size ?_; intro v2 wv2 hown2 hbv2 _; have hS2 := HCS.out _ wv2 hSS hbv2; clear hO hSS hR; obtain ⟨A', c', rfl, hrow2⟩ := PlcOwn.row1 hown2)
      | (have hO := (hown1.alloc (.cells #[.string x.m.name, .int .i64 x.m.major, .int .i64 x.m.minor, .string x.m.text, .slice x.m.eA x.m.ex.length x.m.eC, .slice x.m.iA x.m.im.length x.m.iC, .slice x.m.pA x.m.pa.length x.m.pC, .int .i64 x.first] 46)); have hSS := (HCA.out _ (.cells #[.string x.m.name, .int .i64 x.m.major, .int .i64 x.m.minor, .string x.m.text, .slice x.m.eA x.m.ex.length x.m.eC, .slice x.m.iA x.m.im.length x.m.iC, .slice x.m.pA x.m.pa.length x.m.pC, .int .i64 x.first] 46) hS1); have hR := row_block (enc := Plc.cells) (k := 8) (l := [x]) (fun _ => rfl) (heap_alloc_new wv1 (.cells #[.string x.m.name, .int .i64 x.m.major, .int .i64 x.m.minor, .string x.m.text, .slice x.m.eA x.m.ex.length x.m.eC, .slice x.m.iA x.m.im.length x.m.iC, .slice x.m.pA x.m.pa.length x.m.pC, .int .i64 x.first] 46)) rfl; rw [if_pos (by rfl)]; refine wp_plcs (wv1.alloc (.cells #[.string x.m.name, .int .i64 x.m.major, .int .i64 x.m.minor, .string x.m.text, .slice x.m.eA x.m.ex.length x.m.eC, .slice x.m.iA x.m.im.length x.m.iC, .slice x.m.pA x.m.pa.length x.m.pC, .int .i64 x.first] 46)) (.tmp 30) (.tmp 32) (by rfl) w2.heap.size v1 l (by rfl) hO (some ⟨wv1.heap.size, 0, none⟩) 1 [x] (by rfl) hR hLen1.out (HCL.out _ hSS).size ?_; intro v2 wv2 hown2 hbv2 _; have hS2 := HCS.out _ wv2 hSS hbv2; clear hO hSS hR; obtain ⟨A', c', rfl, hrow2⟩ := PlcOwn.row1 hown2)
      | (have hO := (hown1.alloc (.cells #[.string x.m.name, .int .i64 x.m.major, .int .i64 x.m.minor, .string x.m.text, .slice x.m.eA x.m.ex.length x.m.eC, .slice x.m.iA x.m.im.length x.m.iC, .slice x.m.pA x.m.pa.length x.m.pC, .int .i64 x.first] 46)).drew; have hSS := (HCD.out _ (HCA.out _ (.cells #[.string x.m.name, .int .i64 x.m.major, .int .i64 x.m.minor, .string x.m.text, .slice x.m.eA x.m.ex.length x.m.eC, .slice x.m.iA x.m.im.length x.m.iC, .slice x.m.pA x.m.pa.length x.m.pC, .int .i64 x.first] 46) hS1)); have hR := row_block (enc := Plc.cells) (k := 8) (l := [x]) (fun _ => rfl) (heap_alloc_new wv1 (.cells #[.string x.m.name, .int .i64 x.m.major, .int .i64 x.m.minor, .string x.m.text, .slice x.m.eA x.m.ex.length x.m.eC, .slice x.m.iA x.m.im.length x.m.iC, .slice x.m.pA x.m.pa.length x.m.pC, .int .i64 x.first] 46)) rfl; rw [if_pos (by rfl)]; refine wp_plcs (wv1.alloc (.cells #[.string x.m.name, .int .i64 x.m.major, .int .i64 x.m.minor, .string x.m.text, .slice x.m.eA x.m.ex.length x.m.eC, .slice x.m.iA x.m.im.length x.m.iC, .slice x.m.pA x.m.pa.length x.m.pC, .int .i64 x.first] 46)).drew (.tmp 30) (.tmp 32) (by rfl) w2.heap.size v1 l (by rfl) hO (some ⟨wv1.heap.size, 0, none⟩) 1 [x] (by rfl) hR hLen1.out (HCL.out _ hSS).size ?_; intro v2 wv2 hown2 hbv2 _; have hS2 := HCS.out _ wv2 hSS hbv2; clear hO hSS hR; obtain ⟨A', c', rfl, hrow2⟩ := PlcOwn.row1 hown2)
      | (go_at_call 21; have hSS := hS2; have hpo : PlsOk wv2 A' (l ++ [x]) := ⟨hrow2, hLen2.out, hEach.out _ (HCB.out _ hSS)⟩; refine (cG.out A' c' wv2 (HCB.out _ hSS) hpo).mono ?_; rintro e wv3 ⟨rfl, hb3⟩; have hb3' := hb3.mono (HCL.out _ hSS).size; have hS3 := HCS.out _ wv3 hSS hb3')
      | (go_at_call 21; have hSS := (HCD.out _ hS2); have hpo : PlsOk wv2.drew A' (l ++ [x]) := ⟨hrow2, hLen2.out, hEach.out _ (HCB.out _ hSS)⟩; refine (cG.out A' c' wv2.drew (HCB.out _ hSS) hpo).mono ?_; rintro e wv3 ⟨rfl, hb3⟩; have hb3' := hb3.mono (HCL.out _ hSS).size; have hS3 := HCS.out _ wv3 hSS hb3')
      | fail)
    all_goals (
      have bw9 := HCB.out _ hS3
      have hfin := HFIN.out
      clear cG HC0 HCD HCA HCS HCB HCL HFIN hS3 hb3 hb3'
      by_cases hu : u2 = 0
      · obtain rfl := hu
        have hun : (u1 == n) = true := by simpa using hfin
        clear hfin
        go_wp2_with fail
        go_ret
        exact ⟨by simp [hun], bw9⟩
      · have hu' : (u2 != 0) = true := by simp [hu]
        clear hfin hu
        go_wp2_with fail
        go_ret
        exact ⟨by simp, bw9⟩)
  · have hz := find_err (hV ▸ t1)
    rw [← hV] at hz
    simp only [← hV] at cF
    have t1' : (V.2 != 0) = true := by simp [t1]
    clear t1 hV hi cG h hx hk
    obtain ⟨v1, v2⟩ := V
    simp only at hz t1' cF
    obtain rfl := hz
    go_enter Try.func8, Try.ntmps8
    go_wp2_with (first | (go_at_call 21; refine (cF.out _ H0.out).mono ?_; rintro e w1 ⟨rfl, hw1⟩; obtain ⟨hcw1, hfw1⟩ := bcell hw1; have hsw1 := hw1.size; have hAw1 : w.heap.size + 1 + 1 < w1.heap.size := (by omega); have hBw1 : w.heap.size + 1 < w1.heap.size := (by omega); have hCw1 : w.heap.size < w1.heap.size := (by omega); have bw1 := H0.out.trans (hw1.mono (by omega))) | (go_at_call 27; refine (resolveBegun_any _).mono ?_; rintro e w2 ⟨rfl, hw2⟩; obtain ⟨hcw2, hfw2⟩ := bcell hw2; have hsw2 := hw2.size; have hAw2 : w.heap.size + 1 + 1 < w2.heap.size := (by omega); have hBw2 : w.heap.size + 1 < w2.heap.size := (by omega); have hCw2 : w.heap.size < w2.heap.size := (by omega); have bw2 := bw1.trans (hw2.mono (by omega))))
    go_ret
    exact ⟨by simp, bw2⟩

set_option maxRecDepth 100000 in
theorem resolveOther_lifted (os : Os) (started : os.Started) (H : Type) (enc : TypeId × Value → H) :
    ReturnsInHanded {} Try.checked os 8 .any (Rows.resolveOtherSpec.pre6 enc Try.prog Try.f8 Rows.resolveOtherRow.domain false) (Rows.resolveOtherSpec.post enc Try.prog Try.f8 false true false false) := by
  refine returnsInHanded_of_change_sized (C := Try.checked) Try.own started (by kernel_rfl) Try.func8
    (ChangeSpec.witness6 (enc := enc) (C := Try.checked) false ⟨#[], #[.agg #[.int .i64 0, .int .i64 0, .slice none 0 0], .slice none 0 0, .agg #[.string ⟨#[]⟩, .int .i64 0, .int .i64 0, .string ⟨#[]⟩, .slice none 0 0, .slice none 0 0, .slice none 0 0, .int .i64 0], .agg #[.string ⟨#[]⟩, .string ⟨#[]⟩, .int .i64 0, .int .i64 0]], []⟩ 8 (by kernel_rfl) (by kernel_rfl) (by kernel_rfl) (by kernel_rfl)) ?_
  intro W base args ds gs before hval0 hW hcnd hsz0 _
  have hval : ∀ (j : Nat) t v, Try.f8.params[j]? = some t → args[j]? = some v → Value.okWide Try.prog W .any base t v := hval0
  have hsz : (DataW.weightsEach Try.prog (Try.f8.params.toList ++ Rows.resolveOtherSpec.plain.varTypes Try.prog) (ds ++ gs)).all (· ≤ reachBytes) = true := hsz0
  have hW' := hW
  obtain ⟨p, q, hA0, hV, rfl, hfz, hnd⟩ := hW
  have hA : DataW.TrodAll enc Try.prog W 0 (fun _ => true) true Try.f8.params.toList args.toList ds p := hA0
  rw [Try.params8] at hA hval hsz
  obtain ⟨v0, vs0, d0, ds0, p0, q0, hargs, rfl, rfl, h0, r0⟩ := trodAll_cons hA
  obtain ⟨v1, vs1, d1, ds1, p1, q1, rfl, rfl, rfl, h1, r1⟩ := trodAll_cons r0
  obtain ⟨v2, vs2, d2, ds2, p2, q2, rfl, rfl, rfl, h2, r2⟩ := trodAll_cons r1
  obtain ⟨v3, vs3, d3, ds3, p3, q3, rfl, rfl, rfl, h3, r3⟩ := trodAll_cons r2
  obtain ⟨rfl, rfl, rfl⟩ := trodAll_nil r3
  obtain rfl : args = #[v0, v1, v2, v3] := by cases args; simp_all
  obtain ⟨rfl, rfl⟩ := trodVars_none hV
  have ft0 := fits_each hsz (j := 0) rfl rfl
  obtain ⟨k, rfl, ok0⟩ := open_Kernel (hval 0 50 v0 rfl rfl) h0 ft0
  have ft1 := fits_each hsz (j := 1) rfl rfl
  obtain ⟨lA, l, lc, rfl, ok1⟩ := open_Placeds (hval 1 27 v1 rfl rfl) h1 ft1
  have ft2 := fits_each hsz (j := 2) rfl rfl
  obtain ⟨x, rfl, ok2⟩ := open_Placed (hval 2 46 v2 rfl rfl) h2 ft2
  have ft3 := fits_each hsz (j := 3) rfl rfl
  obtain ⟨i, rfl, ok3⟩ := open_Import (hval 3 52 v3 rfl rfl) h3 ft3
  refine (ResolveOther_any k lA l lc x i W ok0 ok1 ok2 ok3).mono fun e W' ⟨he, hb⟩ => ?_
  subst he
  exact ⟨_, rfl, law_post Try.laidOut hW' rfl (by decide +kernel) rfl Try.underlying4 rfl rfl rfl hb⟩

theorem resolveOther_holds : Rows.ResolveOtherSaid :=
  OpenClaim.holds_of_wide 8 Try.f8 rfl rfl rfl rfl rfl rfl rfl ⟨rfl, rfl, rfl, rfl, rfl⟩ rfl rfl rfl rfl rfl (by kernel_rfl) Try.func8 (by kernel_rfl)
    (of_decide_eq_true (by kernel_rfl)) (by unfold Func.isWrapper; first | (rw [if_pos (by decide +kernel)]; kernel_rfl) | (rw [if_neg (by decide +kernel)]; exact ⟨rfl, rfl⟩))
    (fun os started H enc _ => resolveOther_lifted os started H enc)
#print axioms resolveOther_holds

end Go.Proofs.Ytdpacbdejfjkcaa
