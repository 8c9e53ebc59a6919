import Derived.Test.YtdpacbdejfjkcaaResBegun
import Derived.Test.YtdpacbdejfjkcaaOpen
/- ResolveWithin: what is found is within its module, or below Base; a lesser version of the same kind finds the same. No condition. -/
namespace Go.Proofs.Ytdpacbdejfjkcaa
open Go.ChangeShapes Go.WideShapes Go.ChangeAt Go.RowKit Go.WideMaps Go.WideElems
open Go.ChangeMaps (setBlock shut_map_nil open_string shut_string keptBut_setBlock frozen?_setBlock heap_setBlock_same)

theorem find_ok {k : Krn} {l : List Plc} {i : Imp} (h : (findOf k l i).2 = 0) : placedErr k l = 0 ∧ impErr i = 0 ∧ findOf k l i = addrOf k l i := by
  unfold findOf at h ⊢
  by_cases h1 : placedErr k l = 0
  · rw [if_neg (by omega)] at h ⊢
    by_cases h2 : impErr i = 0
    · rw [if_neg (by omega)]; exact ⟨h1, h2, rfl⟩
    · rw [if_pos h2] at h; exact absurd h h2
  · rw [if_pos h1] at h; exact absurd h h1
theorem addr_err {k : Krn} {l : List Plc} {i : Imp} (h : (addrOf k l i).2 ≠ 0) : (addrOf k l i).1 = 0 := by
  unfold addrOf at h ⊢
  by_cases h0 : i.mod = kernelBytes
  · rw [if_pos h0] at h ⊢
    by_cases h1 : k.major ≠ i.major ∨ k.minor < i.minor
    · rw [if_pos h1]
    · rw [if_neg h1] at h ⊢
      rcases expAt_cases k.ex i.name with e | e
      · exact absurd e h
      · exact e.1
  · rw [if_neg h0] at h ⊢
    split
    · rfl
    · rename_i x hx
      rw [hx] at h
      simp only at h
      split
      · rfl
      · split
        · rfl
        · rename_i h1 h2
          rw [if_neg h1, if_neg h2] at h
          exact absurd rfl h
theorem find_err {k : Krn} {l : List Plc} {i : Imp} (h : (findOf k l i).2 ≠ 0) : (findOf k l i).1 = 0 := by
  unfold findOf at h ⊢
  split
  · rfl
  · split
    · rfl
    · rename_i h1 h2
      rw [if_neg h1, if_neg h2] at h
      exact addr_err h
theorem imp_ver {i : Imp} (h : impErr i = 0) : 0 ≤ i.minor := by
  unfold impErr at h
  split at h
  · omega
  · split at h
    · omega
    · omega
/-- an import of a module: which module, and where -/
theorem addr_mod {k : Krn} {l : List Plc} {i : Imp} (h0 : i.mod ≠ kernelBytes) (h : (addrOf k l i).2 = 0) : ∃ j, ∃ hj : j < l.length, (∀ n (hn : n < l.length), n < j → l[n].m.name ≠ i.mod) ∧ l[j].m.name = i.mod ∧
    l[j].m.major = i.major ∧ i.minor ≤ l[j].m.minor ∧ (expAt l[j].m.ex i.name).2 = 0 ∧ addrOf k l i = (4096 + 64 * l[j].first + (expAt l[j].m.ex i.name).1, 0) := by
  rcases idxOf_cases (named i.mod) l with ⟨_, e2⟩ | ⟨j, hj, _, e2, e3⟩
  · rw [addr_none h0 (List.find?_eq_none.2 (fun x hx => by simp [e2 x hx]))] at h; exact absurd h (by simp)
  · have hf : l.find? (named i.mod) = some l[j] := by
      rw [List.find?_eq_some_iff_getElem]; exact ⟨e2, j, hj, rfl, fun n hn => by simp [e3 n (by omega) hn]⟩
    have ha := addr_some (k := k) h0 hf
    rw [ha] at h ⊢
    by_cases h1 : l[j].m.major ≠ i.major ∨ l[j].m.minor < i.minor
    · rw [if_pos h1] at h; exact absurd h (by simp)
    · rw [if_neg h1] at h ⊢
      by_cases h2 : (expAt l[j].m.ex i.name).2 = 0
      · rw [if_neg (by simp [h2])]
        refine ⟨j, hj, fun n hn hnj => by have := e3 n hn hnj; simpa [named] using this, by simpa [named] using e2, ?_, ?_, h2, rfl⟩ <;> omega
      · rw [if_pos h2] at h; exact absurd h (by simp)
theorem addr_krn {k : Krn} {l : List Plc} {i : Imp} (h0 : i.mod = kernelBytes) (h : (addrOf k l i).2 = 0) : k.major = i.major ∧ i.minor ≤ k.minor ∧ addrOf k l i = expAt k.ex i.name := by
  rw [addr_kernel h0] at h ⊢
  by_cases h1 : k.major ≠ i.major ∨ k.minor < i.minor
  · rw [if_pos h1] at h; exact absurd h (by simp)
  · rw [if_neg h1]; exact ⟨by omega, by omega, rfl⟩
def lesser (i : Imp) : Imp := ⟨i.mod, i.name, i.major, 0⟩
theorem addr_lesser {k : Krn} {l : List Plc} {i : Imp} (hi : 0 ≤ i.minor) (h : (addrOf k l i).2 = 0) : addrOf k l (lesser i) = addrOf k l i := by
  by_cases h0 : i.mod = kernelBytes
  · obtain ⟨h1, h2, h3⟩ := addr_krn h0 h
    rw [h3, addr_kernel (i := lesser i) h0, if_neg]
    · rfl
    · show ¬ (k.major ≠ i.major ∨ k.minor < 0); omega
  · obtain ⟨j, hj, hn, he, h1, h2, h3, h4⟩ := addr_mod h0 h
    have hf : l.find? (named (lesser i).mod) = some l[j] := by
      rw [List.find?_eq_some_iff_getElem]
      exact ⟨by simp [named, lesser, he], j, hj, rfl, fun n hnj => by have := hn n (by omega) hnj; simp [named, lesser, this]⟩
    rw [h4, addr_some (i := lesser i) h0 hf, if_neg, if_neg]
    · rfl
    · show ¬ ((expAt l[j].m.ex i.name).2 ≠ 0); simp [h3]
    · show ¬ (l[j].m.major ≠ i.major ∨ l[j].m.minor < 0); omega
theorem find_lesser {k : Krn} {l : List Plc} {i : Imp} (h : (findOf k l i).2 = 0) : findOf k l (lesser i) = findOf k l i := by
  obtain ⟨h1, h2, h3⟩ := find_ok h
  have hv := imp_ver h2
  rw [h3] at h ⊢
  have h4 : impErr (lesser i) = 0 := by
    unfold impErr at h2 ⊢
    show (if isName i.mod = false ∨ isName i.name = false then 1 else if i.major < 0 ∨ 255 < i.major ∨ (0 : Int) < 0 ∨ 255 < (0 : Int) then 3 else 0) = 0
    split at h2
    · omega
    · rename_i ha
      rw [if_neg ha]
      split at h2
      · omega
      · rw [if_neg (by omega)]
  unfold findOf
  rw [if_neg (by omega), if_neg (by omega)]
  exact addr_lesser hv h

set_option maxRecDepth 100000 in
set_option maxHeartbeats 8000000 in
theorem ResolveWithin_any (k : Krn) (A : Option Addr) (l : List Plc) (c : Nat) (i : Imp) (w : World) (hk : k.ok w) (h : PlsOk w A l) (hi : i.mod.size ≤ big ∧ i.name.size ≤ big) :
    Calls Try.prog 7 #[k.v, .slice A l.length c, i.v] w fun e w' => e = .returned (.bool true) ∧ Below w.heap.size w w' := by
  obtain ⟨wk, hwk⟩ : ∃ wk, wk = w.alloc (.cells #[.int .i64 k.major, .int .i64 k.minor, .slice k.eA k.ex.length k.eC] 50) := ⟨_, rfl⟩
  obtain ⟨g0, g1, g2, hzk, hbk⟩ := box3 hwk
  obtain ⟨w0, hw0⟩ : ∃ w0, w0 = wk.alloc (.cells #[.string i.mod, .string i.name, .int .i64 i.major, .int .i64 i.minor] 52) := ⟨_, rfl⟩
  obtain ⟨f0, f1, f2, f3, hz0, hb0⟩ := box4 hw0
  rw [hzk] at f0 f1 f2 f3 hz0 hb0
  have k0 := (hb0.cell (p := ⟨w.heap.size, 0, none⟩) (by simp)).trans g0
  have k1 := (hb0.cell (p := ⟨w.heap.size, 1, none⟩) (by simp)).trans g1
  have k2 := (hb0.cell (p := ⟨w.heap.size, 2, none⟩) (by simp)).trans g2
  have H0 := Lib.hid (show Below w.heap.size w w0 from hbk.trans (hb0.mono (by omega)))
  have hwk' := hwk.symm
  have hw0' := hw0.symm
  have hz1 : w.heap.size + 1 < w0.heap.size := by omega
  have hz2 : w.heap.size < w0.heap.size := by omega
  have hl := h.len
  unfold big at hl
  have HP := Lib.hid h
  have cF := Lib.hid (fun W (hb : Below w.heap.size w W) => Find_any k A c l i W (hk.below hb) (h.below hb) hi)
  have cL := Lib.hid (fun W (hb : Below w.heap.size w W) => Find_any k A c l (lesser i) W (hk.below hb) (h.below hb) hi)
  clear hwk hw0 hbk hb0 hk h g0 g1 g2 hz0
  obtain ⟨V, hV⟩ : ∃ V, V = findOf k l i := ⟨_, rfl⟩
  by_cases t1 : V.2 = 0
  · have hfo := find_ok (hV ▸ t1)
    have hle := find_lesser (hV ▸ t1)
    rw [hle] at cL
    simp only [← hV] at cF cL
    have hpe := hfo.1
    have hva := hV.trans hfo.2.2
    have hv2 : (addrOf k l i).2 = 0 := by rw [← hva]; exact t1
    clear hV hfo hle hi
    have kq := kernel_eq i.mod
    obtain ⟨n, v2⟩ := V
    simp only at t1 cF cL
    obtain rfl := t1
    have cL := Lib.hid (show ∀ W, Below w.heap.size w W → Calls Try.prog 21 #[k.v, .slice A l.length c, .agg #[.string i.mod, .string i.name, .int .i64 i.major, .int .i64 0]] W fun e w' => e = .returned (.tuple #[.int .i64 n, .int .i64 0]) ∧ Below W.heap.size W w' from fun W hb => cL.out W hb)
    by_cases t2 : i.mod = kernelBytes
    · have h3 := (addr_krn t2 hv2).2.2
      have hr := expAt_rng (nm := i.name) (fun x hx => ((krn_ok (placed_ok hpe).1) x hx).2) (by omega : (0 : Int) < 4096)
      rw [← h3, ← hva] at hr
      have r1 : 0 ≤ n := hr.1
      have r2 : n < 4096 := hr.2
      rw [show decide (i.mod = kernelBytes) = true by simp [t2]] at kq
      clear hr h3 hva hv2 hpe t2
      go_enter Try.func7, Try.ntmps7
      go_wp2_with (first | (go_at_call 21; refine (cL.out _ (bw2.alloc (by omega) _)).mono ?_; rintro e w3 ⟨rfl, hw3⟩; obtain ⟨hcw3, hfw3⟩ := bcell hw3; have hsw3 := hw3.size; have hBw3 : w.heap.size + 1 < w3.heap.size := (by simp at hsw3; omega); have hCw3 : w.heap.size < w3.heap.size := (by omega); have bw3 := (bw2.alloc (by omega) _).trans (hw3.mono (by simp; omega))) | (go_at_call 21; refine (cF.out _ H0.out).mono ?_; rintro e w1 ⟨rfl, hw1⟩; obtain ⟨hcw1, hfw1⟩ := bcell hw1; have hsw1 := hw1.size; have hBw1 : w.heap.size + 1 < w1.heap.size := (by omega); have hCw1 : w.heap.size < w1.heap.size := (by omega); have bw1 := H0.out.trans (hw1.mono (by omega))) | (go_at_call 27; refine (resolveBegun_any _).mono ?_; rintro e w2 ⟨rfl, hw2⟩; obtain ⟨hcw2, hfw2⟩ := bcell hw2; have hsw2 := hw2.size; have hBw2 : w.heap.size + 1 < w2.heap.size := (by omega); have hCw2 : w.heap.size < w2.heap.size := (by omega); have bw2 := bw1.trans (hw2.mono (by omega))))
      go_ret
      exact ⟨by simp, bw3⟩
    · obtain ⟨jf, hjf, hno, hye, hx1, hx2, h3, h4⟩ := addr_mod t2 hv2
      obtain ⟨p1, p2, p3⟩ := plc_facts hpe (x := l[jf]) (List.getElem_mem _)
      have mf := modErr_facts p3
      have hr := expAt_rng (nm := i.name) (most := l[jf].m.text.size) (fun x hx => (expErr_ok mf.2.2.2.2.2.2.2.2.1 x hx).2) (by omega)
      have hn0 : n = 4096 + 64 * l[jf].first + (expAt l[jf].m.ex i.name).1 := by
        have := hva.trans h4; injection this
      have r1 := Lib.hid (show 4096 + l[jf].first * 64 ≤ n ∧ n < 4096 + l[jf].first * 64 + l[jf].m.text.size by omega)
      have q0 := Lib.hid (show (l[jf]'hjf).m.text.size ≤ 256 from mf.2.2.1)
      rw [show decide (i.mod = kernelBytes) = false by simp [t2]] at kq
      have HNO := Lib.hid hno
      have HYE := Lib.hid hye
      have P1 := Lib.hid p1
      have P2 := Lib.hid p2
      clear hr h3 h4 hva hv2 hpe t2 hno hye p1 p2 p3 mf hn0 hx1 hx2
      go_enter Try.func7, Try.ntmps7
      go_wp2_with (first | (go_at_call 21; refine (cL.out _ (bw2.alloc (by omega) _)).mono ?_; rintro e w3 ⟨rfl, hw3⟩; obtain ⟨hcw3, hfw3⟩ := bcell hw3; have hsw3 := hw3.size; have hBw3 : w.heap.size + 1 < w3.heap.size := (by simp at hsw3; omega); have hCw3 : w.heap.size < w3.heap.size := (by omega); have bw3 := (bw2.alloc (by omega) _).trans (hw3.mono (by simp; omega))) | (go_at_call 21; refine (cF.out _ H0.out).mono ?_; rintro e w1 ⟨rfl, hw1⟩; obtain ⟨hcw1, hfw1⟩ := bcell hw1; have hsw1 := hw1.size; have hBw1 : w.heap.size + 1 < w1.heap.size := (by omega); have hCw1 : w.heap.size < w1.heap.size := (by omega); have bw1 := H0.out.trans (hw1.mono (by omega))) | (go_at_call 27; refine (resolveBegun_any _).mono ?_; rintro e w2 ⟨rfl, hw2⟩; obtain ⟨hcw2, hfw2⟩ := bcell hw2; have hsw2 := hw2.size; have hBw2 : w.heap.size + 1 < w2.heap.size := (by omega); have hCw2 : w.heap.size < w2.heap.size := (by omega); have bw2 := bw1.trans (hw2.mono (by omega))))
      have hch := Lib.hid (((hw1.trans (hw2.mono (by omega))).alloc (by omega) _).trans (hw3.mono (by simp; omega)))
      have f0w := (hch.out.cell (p := ⟨w.heap.size + 1, 0, none⟩) (by simp; omega)).trans f0
      go_loopw [12] (fun v wr => ∃ j : Nat, j ≤ jf ∧ v = .int .i64 j ∧ Below w3.heap.size w3 wr) (fun v _ => jf - (intOf v).toNat)
      case atStart => exact ⟨0, by omega, rfl, Below.refl _ _⟩
      case round =>
        obtain ⟨j, hj, rfl, hb⟩ := hrel
        have HB := Lib.hid hb
        have hwr := hb.size
        have hBwr : w.heap.size + 1 < wr.heap.size := by omega
        have f0r := (hb.cell (p := ⟨w.heap.size + 1, 0, none⟩) (by simp; omega)).trans f0w
        have hlt : j < l.length := by omega
        have hlt' : (j : Int) < l.length := by omega
        have BR := Lib.hid (bw3.trans (hb.mono (by omega)))
        obtain ⟨ad, rfl, hab, m0, m1, m2, m3, m4, m5, m6, m7⟩ := plc_at HP.out.row BR.out j hlt
        clear hb
        by_cases hjj : j = jf
        · subst hjj
          have he := str_eq HYE.out
          have p1 := P1.out
          have p2 := P2.out
          have q00 := q0.out
          obtain ⟨r2, r3⟩ := r1.out
          have q1 : wrap64 (l[j].first * 64) = l[j].first * 64 := IntWalk.wrap64_in _ (by omega)
          have q2 : wrap64 (4096 + l[j].first * 64) = 4096 + l[j].first * 64 := IntWalk.wrap64_in _ (by omega)
          have q3 : wrap64 (4096 + l[j].first * 64 + l[j].m.text.size) = 4096 + l[j].first * 64 + l[j].m.text.size := IntWalk.wrap64_in _ (by omega)
          go_wp2_with fail
          go_quiet (fail)
          go_wp2_with fail
          go_ret
          exact ⟨by simp, below_drewN BR.out _⟩
        · have he := str_ne (HNO.out j hlt (by omega))
          have hjl : j < jf := by omega
          clear hjj
          go_wp2_with fail
          go_quiet (fail)
          go_wp2_with fail
          go_roundw
          case rel => exact ⟨j + 1, by omega, by go_num, below_drewN HB.out _⟩
          case measure => (simp [intOf]; try omega)
  · have hz := find_err (hV ▸ t1)
    rw [← hV] at hz
    simp only [← hV] at cF
    have t1' : (V.2 != 0) = true := by simp [t1]
    clear t1 hV hi cL
    obtain ⟨v1, v2⟩ := V
    simp only at hz t1' cF
    obtain rfl := hz
    go_enter Try.func7, Try.ntmps7
    go_wp2_with (first | (go_at_call 21; refine (cF.out _ H0.out).mono ?_; rintro e w1 ⟨rfl, hw1⟩; obtain ⟨hcw1, hfw1⟩ := bcell hw1; have hsw1 := hw1.size; have hBw1 : w.heap.size + 1 < w1.heap.size := (by omega); have hCw1 : w.heap.size < w1.heap.size := (by omega); have bw1 := H0.out.trans (hw1.mono (by omega))) | (go_at_call 27; refine (resolveBegun_any _).mono ?_; rintro e w2 ⟨rfl, hw2⟩; obtain ⟨hcw2, hfw2⟩ := bcell hw2; have hsw2 := hw2.size; have hBw2 : w.heap.size + 1 < w2.heap.size := (by omega); have hCw2 : w.heap.size < w2.heap.size := (by omega); have bw2 := bw1.trans (hw2.mono (by omega))))
    go_ret
    exact ⟨by simp, bw2⟩

set_option maxRecDepth 100000 in
theorem resolveWithin_lifted (os : Os) (started : os.Started) (H : Type) (enc : TypeId × Value → H) :
    ReturnsInHanded {} Try.checked os 7 .any (Rows.resolveWithinSpec.pre6 enc Try.prog Try.f7 Rows.resolveWithinRow.domain false) (Rows.resolveWithinSpec.post enc Try.prog Try.f7 false true false false) := by
  refine returnsInHanded_of_change_sized (C := Try.checked) Try.own started (by kernel_rfl) Try.func7
    (ChangeSpec.witness6 (enc := enc) (C := Try.checked) false ⟨#[], #[.agg #[.int .i64 0, .int .i64 0, .slice none 0 0], .slice none 0 0, .agg #[.string ⟨#[]⟩, .string ⟨#[]⟩, .int .i64 0, .int .i64 0]], []⟩ 8 (by kernel_rfl) (by kernel_rfl) (by kernel_rfl) (by kernel_rfl)) ?_
  intro W base args ds gs before hval0 hW hcnd hsz0 _
  have hval : ∀ (j : Nat) t v, Try.f7.params[j]? = some t → args[j]? = some v → Value.okWide Try.prog W .any base t v := hval0
  have hsz : (DataW.weightsEach Try.prog (Try.f7.params.toList ++ Rows.resolveWithinSpec.plain.varTypes Try.prog) (ds ++ gs)).all (· ≤ reachBytes) = true := hsz0
  have hW' := hW
  obtain ⟨p, q, hA0, hV, rfl, hfz, hnd⟩ := hW
  have hA : DataW.TrodAll enc Try.prog W 0 (fun _ => true) true Try.f7.params.toList args.toList ds p := hA0
  rw [Try.params7] at hA hval hsz
  obtain ⟨v0, vs0, d0, ds0, p0, q0, hargs, rfl, rfl, h0, r0⟩ := trodAll_cons hA
  obtain ⟨v1, vs1, d1, ds1, p1, q1, rfl, rfl, rfl, h1, r1⟩ := trodAll_cons r0
  obtain ⟨v2, vs2, d2, ds2, p2, q2, rfl, rfl, rfl, h2, r2⟩ := trodAll_cons r1
  obtain ⟨rfl, rfl, rfl⟩ := trodAll_nil r2
  obtain rfl : args = #[v0, v1, v2] := by cases args; simp_all
  obtain ⟨rfl, rfl⟩ := trodVars_none hV
  have ft0 := fits_each hsz (j := 0) rfl rfl
  obtain ⟨k, rfl, ok0⟩ := open_Kernel (hval 0 50 v0 rfl rfl) h0 ft0
  have ft1 := fits_each hsz (j := 1) rfl rfl
  obtain ⟨lA, l, lc, rfl, ok1⟩ := open_Placeds (hval 1 27 v1 rfl rfl) h1 ft1
  have ft2 := fits_each hsz (j := 2) rfl rfl
  obtain ⟨i, rfl, ok2⟩ := open_Import (hval 2 52 v2 rfl rfl) h2 ft2
  refine (ResolveWithin_any k lA l lc i W ok0 ok1 ok2).mono fun e W' ⟨he, hb⟩ => ?_
  subst he
  exact ⟨_, rfl, law_post Try.laidOut hW' rfl (by decide +kernel) rfl Try.underlying4 rfl rfl rfl hb⟩

theorem resolveWithin_holds : Rows.ResolveWithinSaid :=
  OpenClaim.holds_of_wide 7 Try.f7 rfl rfl rfl rfl rfl rfl rfl ⟨rfl, rfl, rfl, rfl, rfl⟩ rfl rfl rfl rfl rfl (by kernel_rfl) Try.func7 (by kernel_rfl)
    (of_decide_eq_true (by kernel_rfl)) (by unfold Func.isWrapper; first | (rw [if_pos (by decide +kernel)]; kernel_rfl) | (rw [if_neg (by decide +kernel)]; exact ⟨rfl, rfl⟩))
    (fun os started H enc _ => resolveWithin_lifted os started H enc)
#print axioms resolveWithin_holds


end Go.Proofs.Ytdpacbdejfjkcaa
