import Derived.Test.YtdpacbdejfjkcaaTimesW
import Derived.Test.YtdpacbdejfjkcaaCheckW
/- module.Decode (chapter B). -/
namespace Go.Proofs.Ytdpacbdejfjkcaa
open Go.RowKit

/-- below base nothing but blocks B and bM has turned since V -/
structure LowK (base B bM : Nat) (V W : World) : Prop where
  size : base ≤ W.heap.size
  low : ∀ k, k < base → k ≠ B → k ≠ bM → W.heap[k]? = V.heap[k]?
  os : W.os = V.os ∧ W.tape = V.tape ∧ W.output = V.output
def I1 (B bR bM base : Nat) (nm tx : ByteArray) (mj mn : Int) (V : World) (xs : List Exp) (st : Rest) (W : World) : Prop :=
  Rd B st W ∧ (left st).length ≤ big ∧ Boxed W bR 84 (.pointer (some ⟨B, 0, none⟩)) ∧ LowK base B bM V W ∧ ∃ v, MB W bM nm mj mn tx v (.slice none 0 0) (.slice none 0 0) ∧ ExpOwn W base v xs
def I2 (B bR bM base : Nat) (nm tx : ByteArray) (mj mn : Int) (vE : Value) (es : List Exp) (V : World) (xs : List Imp) (st : Rest) (W : World) : Prop :=
  Rd B st W ∧ (left st).length ≤ big ∧ Boxed W bR 84 (.pointer (some ⟨B, 0, none⟩)) ∧ LowK base B bM V W ∧ ExpOwn W base vE es ∧ ∃ v, MB W bM nm mj mn tx vE v (.slice none 0 0) ∧ ImpOwn W base v xs
def I3 (B bR bM base : Nat) (nm tx : ByteArray) (mj mn : Int) (vE vI : Value) (es : List Exp) (is : List Imp) (V : World) (xs : List Pat) (st : Rest) (W : World) : Prop :=
  Rd B st W ∧ (left st).length ≤ big ∧ Boxed W bR 84 (.pointer (some ⟨B, 0, none⟩)) ∧ LowK base B bM V W ∧ ExpOwn W base vE es ∧ ImpOwn W base vI is ∧ ∃ v, MB W bM nm mj mn tx vE vI v ∧ PatOwn W base v xs
theorem LowK.step {base B bM : Nat} {V W W' : World} (h : LowK base B bM V W) (hs : W.heap.size ≤ W'.heap.size) (hl : ∀ k, k < base → k ≠ B → k ≠ bM → W'.heap[k]? = W.heap[k]?) (ho : W'.os = W.os ∧ W'.tape = W.tape ∧ W'.output = W.output) : LowK base B bM V W' :=
  ⟨Nat.le_trans h.size hs, fun k h1 h2 h3 => (hl k h1 h2 h3).trans (h.low k h1 h2 h3), ho.1.trans h.os.1, ho.2.1.trans h.os.2.1, ho.2.2.trans h.os.2.2⟩
theorem LowK.only {base B bM : Nat} {V W W' : World} (h : LowK base B bM V W) (ho : Only B W W') : LowK base B bM V W' :=
  h.step ho.size (fun k h1 h2 _ => ho.block k (Nat.lt_of_lt_of_le h1 h.size) h2) ⟨ho.os, ho.tape, ho.output⟩

section
variable {B bR bM base : Nat} {nm tx : ByteArray} {mj mn : Int} {V : World}
/-- 'number' takes what it takes: the rest is as it was -/
theorem only_all {W W' : World} {st : Rest} (hR : Rd B st W) (ho : Only B W W') : Kp [86] W W' := ho.kp hR (by simp)
theorem times1 (hb1 : B < base) (hb2 : bM < base) (st : Rest) (w : World) (hl : (left st).length ≤ big) (h : I1 B bR bM base nm tx mj mn V [] st w) :
    Calls Try.prog 63 #[.pointer (some ⟨B, 0, none⟩), .func (.func 64) #[] #[.pointer (some ⟨bR, 0, none⟩), .pointer (some ⟨bM, 0, none⟩)]] w fun e w' => (∃ u, e = .returned u) ∧ I1 B bR bM base nm tx mj mn V (reps decExp (numb 1 st).1.toNat (numb 1 st).2).1 (reps decExp (numb 1 st).1.toNat (numb 1 st).2).2 w' := by
  refine times_any decExp B 64 _ (I1 B bR bM base nm tx mj mn V) st w (enters_of Try.func64 (by kernel_rfl) rfl) (fun _ _ _ h => h.1) hl ?_ ?_ h.1
  · intro W' ho hR'
    obtain ⟨hR, _, hB, hL, v, hM, hE⟩ := h
    have k := only_all hR ho
    exact ⟨hR', left_le 1 hl, box_kp hB k (by decide), hL.only ho, v, k _ _ _ _ hM (by decide), own_kp hE k (by decide)⟩
  · intro xs s W hxs hI
    obtain ⟨hR, hls, hB, hL, v, hM, hE⟩ := hI
    refine (dec1_any B bR bM base (some s) nm tx mj mn v _ _ xs W hR hB hM hE hls (by omega) hb1 hb2 hL.size).mono ?_
    rintro e w' ⟨hu, h1, h2, h3, h4, h5, v', h6, h7⟩
    exact ⟨hu, h1, left_exp hls, box_kp hB h2 (by decide), hL.step h3 h4 h5, v', h6, h7⟩
theorem times2 {vE : Value} {es : List Exp} (hb1 : B < base) (hb2 : bM < base) (st : Rest) (w : World) (hl : (left st).length ≤ big) (h : I2 B bR bM base nm tx mj mn vE es V [] st w) :
    Calls Try.prog 63 #[.pointer (some ⟨B, 0, none⟩), .func (.func 65) #[] #[.pointer (some ⟨bR, 0, none⟩), .pointer (some ⟨bM, 0, none⟩)]] w fun e w' => (∃ u, e = .returned u) ∧ I2 B bR bM base nm tx mj mn vE es V (reps decImp (numb 1 st).1.toNat (numb 1 st).2).1 (reps decImp (numb 1 st).1.toNat (numb 1 st).2).2 w' := by
  refine times_any decImp B 65 _ (I2 B bR bM base nm tx mj mn vE es V) st w (enters_of Try.func65 (by kernel_rfl) rfl) (fun _ _ _ h => h.1) hl ?_ ?_ h.1
  · intro W' ho hR'
    obtain ⟨hR, _, hB, hL, hE, v, hM, hI⟩ := h
    have k := only_all hR ho
    exact ⟨hR', left_le 1 hl, box_kp hB k (by decide), hL.only ho, own_kp hE k (by decide), v, k _ _ _ _ hM (by decide), own_kp hI k (by decide)⟩
  · intro xs s W hxs hI
    obtain ⟨hR, hls, hB, hL, hE, v, hM, hI⟩ := hI
    refine (dec2_any B bR bM base (some s) nm tx mj mn vE v _ xs W hR hB hM hI hls (by omega) hb1 hb2 hL.size).mono ?_
    rintro e w' ⟨hu, h1, h2, h3, h4, h5, v', h6, h7⟩
    exact ⟨hu, h1, left_imp hls, box_kp hB h2 (by decide), hL.step h3 h4 h5, own_kp hE h2 (by decide), v', h6, h7⟩
theorem times3 {vE vI : Value} {es : List Exp} {is : List Imp} (hb1 : B < base) (hb2 : bM < base) (st : Rest) (w : World) (hl : (left st).length ≤ big) (h : I3 B bR bM base nm tx mj mn vE vI es is V [] st w) :
    Calls Try.prog 63 #[.pointer (some ⟨B, 0, none⟩), .func (.func 66) #[] #[.pointer (some ⟨bR, 0, none⟩), .pointer (some ⟨bM, 0, none⟩)]] w fun e w' => (∃ u, e = .returned u) ∧ I3 B bR bM base nm tx mj mn vE vI es is V (reps decPat (numb 1 st).1.toNat (numb 1 st).2).1 (reps decPat (numb 1 st).1.toNat (numb 1 st).2).2 w' := by
  refine times_any decPat B 66 _ (I3 B bR bM base nm tx mj mn vE vI es is V) st w (enters_of Try.func66 (by kernel_rfl) rfl) (fun _ _ _ h => h.1) hl ?_ ?_ h.1
  · intro W' ho hR'
    obtain ⟨hR, _, hB, hL, hE, hI, v, hM, hP⟩ := h
    have k := only_all hR ho
    exact ⟨hR', left_le 1 hl, box_kp hB k (by decide), hL.only ho, own_kp hE k (by decide), own_kp hI k (by decide), v, k _ _ _ _ hM (by decide), own_kp hP k (by decide)⟩
  · intro xs s W hxs hI
    obtain ⟨hR, hls, hB, hL, hE, hI, v, hM, hP⟩ := hI
    refine (dec3_any B bR bM base (some s) nm tx mj mn vE vI v xs W hR hB hM hP hls (by omega) hb1 hb2 hL.size).mono ?_
    rintro e w' ⟨hu, h1, h2, h3, h4, h5, v', h6, h7⟩
    exact ⟨hu, h1, left_pat hls, box_kp hB h2 (by decide), hL.step h3 h4 h5, own_kp hE h2 (by decide), own_kp hI h2 (by decide), v', h6, h7⟩
end


theorem results_cell_tmp {P : Program} {fn : Func} {p u : Tmp} {ty : TypeId} (h : fn.results = #[.cell p ty, .tmp u]) (tmps : Array Value) (w : World) (g : Nat) (t : TypeId) (cs : Array Value) (fr : Nat × Nat) (d : TypeDesc)
    (hp : tmps.getD p undef = .pointer (some ⟨g, 0, none⟩)) (hg : w.heap[g]? = some (.cells cs t fr))
    (hu : P.underlying ty = some d) (hd : (match d with | .struct _ | .array _ _ => true | _ => false) = true) (hi : (P.info? ty).map (·.size) = some cs.size) :
    (results fn tmps).run P w = .ok (.tuple #[.agg cs, tmps.getD u undef]) w := by
  have hp' : tmps[p]?.getD undef = .pointer (some ⟨g, 0, none⟩) := by simpa using hp
  simp [results, h, hp', asAddr, run_loadVar_row w g t ty cs fr d hg hu hd hi]

theorem set7 {W : World} {b : Nat} {c0 c1 c2 c3 c4 c5 c6 : Value} {t : TypeId} (h : W.heap[b]? = some (.cells #[c0, c1, c2, c3, c4, c5, c6] t (0, 0))) (x0 x1 x2 x3 x4 x5 x6 : Value) :
    (((((((W.setCell ⟨b, 0, none⟩ x0).setCell ⟨b, 1, none⟩ x1).setCell ⟨b, 2, none⟩ x2).setCell ⟨b, 3, none⟩ x3).setCell ⟨b, 4, none⟩ x4).setCell ⟨b, 5, none⟩ x5).setCell ⟨b, 6, none⟩ x6).heap[b]? = some (.cells #[x0, x1, x2, x3, x4, x5, x6] t (0, 0)) ∧
    Only b W (((((((W.setCell ⟨b, 0, none⟩ x0).setCell ⟨b, 1, none⟩ x1).setCell ⟨b, 2, none⟩ x2).setCell ⟨b, 3, none⟩ x3).setCell ⟨b, 4, none⟩ x4).setCell ⟨b, 5, none⟩ x5).setCell ⟨b, 6, none⟩ x6) := by
  have h0 : (W.setCell ⟨b, 0, none⟩ x0).heap[b]? = some (.cells #[x0, c1, c2, c3, c4, c5, c6] t (0, 0)) := heap_setCell_same W b 0 _ _ x0 h
  have h1 : ((W.setCell ⟨b, 0, none⟩ x0).setCell ⟨b, 1, none⟩ x1).heap[b]? = some (.cells #[x0, x1, c2, c3, c4, c5, c6] t (0, 0)) := heap_setCell_same (W.setCell ⟨b, 0, none⟩ x0) b 1 _ _ x1 h0
  have h2 : (((W.setCell ⟨b, 0, none⟩ x0).setCell ⟨b, 1, none⟩ x1).setCell ⟨b, 2, none⟩ x2).heap[b]? = some (.cells #[x0, x1, x2, c3, c4, c5, c6] t (0, 0)) := heap_setCell_same ((W.setCell ⟨b, 0, none⟩ x0).setCell ⟨b, 1, none⟩ x1) b 2 _ _ x2 h1
  have h3 : ((((W.setCell ⟨b, 0, none⟩ x0).setCell ⟨b, 1, none⟩ x1).setCell ⟨b, 2, none⟩ x2).setCell ⟨b, 3, none⟩ x3).heap[b]? = some (.cells #[x0, x1, x2, x3, c4, c5, c6] t (0, 0)) := heap_setCell_same (((W.setCell ⟨b, 0, none⟩ x0).setCell ⟨b, 1, none⟩ x1).setCell ⟨b, 2, none⟩ x2) b 3 _ _ x3 h2
  have h4 : (((((W.setCell ⟨b, 0, none⟩ x0).setCell ⟨b, 1, none⟩ x1).setCell ⟨b, 2, none⟩ x2).setCell ⟨b, 3, none⟩ x3).setCell ⟨b, 4, none⟩ x4).heap[b]? = some (.cells #[x0, x1, x2, x3, x4, c5, c6] t (0, 0)) := heap_setCell_same ((((W.setCell ⟨b, 0, none⟩ x0).setCell ⟨b, 1, none⟩ x1).setCell ⟨b, 2, none⟩ x2).setCell ⟨b, 3, none⟩ x3) b 4 _ _ x4 h3
  have h5 : ((((((W.setCell ⟨b, 0, none⟩ x0).setCell ⟨b, 1, none⟩ x1).setCell ⟨b, 2, none⟩ x2).setCell ⟨b, 3, none⟩ x3).setCell ⟨b, 4, none⟩ x4).setCell ⟨b, 5, none⟩ x5).heap[b]? = some (.cells #[x0, x1, x2, x3, x4, x5, c6] t (0, 0)) := heap_setCell_same (((((W.setCell ⟨b, 0, none⟩ x0).setCell ⟨b, 1, none⟩ x1).setCell ⟨b, 2, none⟩ x2).setCell ⟨b, 3, none⟩ x3).setCell ⟨b, 4, none⟩ x4) b 5 _ _ x5 h4
  have h6 : (((((((W.setCell ⟨b, 0, none⟩ x0).setCell ⟨b, 1, none⟩ x1).setCell ⟨b, 2, none⟩ x2).setCell ⟨b, 3, none⟩ x3).setCell ⟨b, 4, none⟩ x4).setCell ⟨b, 5, none⟩ x5).setCell ⟨b, 6, none⟩ x6).heap[b]? = some (.cells #[x0, x1, x2, x3, x4, x5, x6] t (0, 0)) := heap_setCell_same ((((((W.setCell ⟨b, 0, none⟩ x0).setCell ⟨b, 1, none⟩ x1).setCell ⟨b, 2, none⟩ x2).setCell ⟨b, 3, none⟩ x3).setCell ⟨b, 4, none⟩ x4).setCell ⟨b, 5, none⟩ x5) b 6 _ _ x6 h5
  exact ⟨h6, ((((((Only.set 0 x0).trans (Only.set 1 x1)).trans (Only.set 2 x2)).trans (Only.set 3 x3)).trans (Only.set 4 x4)).trans (Only.set 5 x5)).trans (Only.set 6 x6)⟩
theorem own_same {w w' : World} {base size n : Nat} {e : TypeId} {v : Value} {xs : List Value} (h : w.ownsRow base e size v n xs) (hb : ∀ g, base ≤ g → g < w.heap.size → w'.heap[g]? = w.heap[g]?) : w'.ownsRow base e size v n xs := by
  refine ⟨h.1, ?_⟩
  rcases h.2 with h0 | ⟨g, cap, cur, e1, e2, e3, e4⟩
  · exact .inl h0
  · exact .inr ⟨g, cap, cur, e1, e2, (hb g e2 (Array.getElem?_eq_some_iff.1 e3).1).trans e3, e4⟩
theorem mk_ok {W : World} {base : Nat} {a0 a3 : ByteArray} {a1 a2 : Int} {es : List Exp} {is : List Imp} {ps : List Pat} {eA iA pA : Option Addr} {eC iC pC : Nat} (hE : ExpOwn W base (.slice eA es.length eC) es) (hI : ImpOwn W base (.slice iA is.length iC) is) (hP : PatOwn W base (.slice pA ps.length pC) ps)
    (hq : es.length ≤ big ∧ (∀ x ∈ es, x.name.size ≤ big) ∧ is.length ≤ big ∧ (∀ x ∈ is, x.mod.size ≤ big ∧ x.name.size ≤ big) ∧ ps.length ≤ big ∧ a0.size ≤ big ∧ a3.size ≤ big) : (⟨a0, a1, a2, a3, es, is, ps, eA, eC, iA, iC, pA, pC⟩ : Mod).ok W :=
  ⟨⟨Reads.of_own hE, hq.1, hq.2.1⟩, ⟨Reads.of_own hI, hq.2.2.1, hq.2.2.2.1⟩, ⟨Reads.of_own hP, hq.2.2.2.2.1⟩, hq.2.2.2.2.2.1, hq.2.2.2.2.2.2⟩
theorem zero_ok (W : World) : zeroMod.ok W := ⟨⟨Row.nil, Nat.zero_le _, by simp [zeroMod]⟩, ⟨Row.nil, Nat.zero_le _, by simp [zeroMod]⟩, ⟨Row.nil, Nat.zero_le _⟩, Nat.zero_le _, Nat.zero_le _⟩
theorem zero_res {l : List UInt8} (h : decErr l ≠ 0) : decRes l = zeroMod := by unfold decRes; rw [if_pos h]
theorem Try.sizeModule : (Try.prog.info? 26).map (·.size) = some 7 := by kernel_rfl

set_option maxHeartbeats 8000000 in
set_option maxRecDepth 100000 in
theorem Decode_any (l : List UInt8) (w : World) (hl : l.length ≤ big) :
    Calls Try.prog 32 #[.string (sof l)] w fun e w' => (∃ m : Mod, e = .returned (.tuple #[m.v, .int .i64 (decErr l)]) ∧ m.ok w' ∧ SameC m (decRes l)) ∧ Below w.heap.size w w' := by
  obtain ⟨W0, hW0⟩ : ∃ W, W = ((w.alloc (.cells #[.string ⟨#[]⟩, .int .i64 0, .int .i64 0, .string ⟨#[]⟩, .slice none 0 0, .slice none 0 0, .slice none 0 0] 26)).alloc (.cells #[.string (sof l), .bool false] 86)).alloc (.cells #[.pointer (some ⟨w.heap.size + 1, 0, none⟩)] 84) := ⟨_, rfl⟩
  have HW0 := Lib.hid hW0.symm
  have zW : W0.heap.size = w.heap.size + 1 + 1 + 1 := by subst hW0; simp
  have hRd : Rd (w.heap.size + 1) (some l) W0 := by
    subst hW0
    unfold Rd
    rw [heap_alloc_old _ _ (by simp)]
    exact heap_alloc2_new w _ _
  have hBx : Boxed W0 (w.heap.size + 1 + 1) 84 (.pointer (some ⟨w.heap.size + 1, 0, none⟩)) := by
    subst hW0
    have := Boxed.new ((w.alloc (.cells #[.string ⟨#[]⟩, .int .i64 0, .int .i64 0, .string ⟨#[]⟩, .slice none 0 0, .slice none 0 0, .slice none 0 0] 26)).alloc (.cells #[.string (sof l), .bool false] 86)) 84 (.pointer (some ⟨w.heap.size + 1, 0, none⟩))
    simpa using this
  have hZ0 : W0.heap[w.heap.size]? = some (.cells #[.string ⟨#[]⟩, .int .i64 0, .int .i64 0, .string ⟨#[]⟩, .slice none 0 0, .slice none 0 0, .slice none 0 0] 26 (0, 0)) := by
    subst hW0
    rw [heap_alloc_old _ _ (by simp; omega), heap_alloc2_old]
  have hBel : Below w.heap.size w W0 := by
    subst hW0
    exact (((Below.refl _ _).alloc (Nat.le_refl _) _).alloc (by simp) _).alloc (by simp; omega) _
  have hl0 : (left (some l)).length ≤ big := hl
  have hla : (left (d0 l).2).length ≤ big := left_nam hl0
  have hlb : (left (d1 l).2).length ≤ big := left_le 1 hla
  have hlc : (left (d2 l).2).length ≤ big := left_le 1 hlb
  have hld : (left (d3 l).2).length ≤ big := left_le 2 hlc
  have hle : (left (d4 l).2).length ≤ big := left_le _ hld
  have r3 := numb_range 2 (d2 l).2 (by omega)
  change 0 ≤ (d3 l).1 ∧ (d3 l).1 ≤ 65535 at r3
  obtain ⟨n, hn⟩ : ∃ n : Nat, (d3 l).1 = n := ⟨(d3 l).1.toNat, by omega⟩
  have c0 := Lib.hid (fun W hW => rname_any (w.heap.size + 1) (some l) W hW hl0)
  change Hid (∀ W, _ → Calls _ _ _ W fun e w' => e = .returned (.string (sof (d0 l).1)) ∧ Rd _ (d0 l).2 w' ∧ _) at c0
  have c1 := Lib.hid (fun W hW => number_any (w.heap.size + 1) (d0 l).2 1 W hW hla (by omega) (by omega))
  change Hid (∀ W, _ → Calls _ _ #[_, .int .i64 1] W fun e w' => e = .returned (.int .i64 (d1 l).1) ∧ Rd _ (d1 l).2 w' ∧ _) at c1
  have c2 := Lib.hid (fun W hW => number_any (w.heap.size + 1) (d1 l).2 1 W hW hlb (by omega) (by omega))
  change Hid (∀ W, _ → Calls _ _ #[_, .int .i64 1] W fun e w' => e = .returned (.int .i64 (d2 l).1) ∧ Rd _ (d2 l).2 w' ∧ _) at c2
  have c3 := Lib.hid (fun W hW => number_any (w.heap.size + 1) (d2 l).2 2 W hW hlc (by omega) (by omega))
  change Hid (∀ W, _ → Calls _ _ #[_, .int .i64 2] W fun e w' => e = .returned (.int .i64 (d3 l).1) ∧ Rd _ (d3 l).2 w' ∧ _) at c3
  have c4 := Lib.hid (fun W hW => take_any (w.heap.size + 1) (d3 l).2 n W hW hld (by omega))
  have hn2 : txt n (d3 l).2 = d4 l := by unfold d4; rw [hn]; rfl
  rw [hn2] at c4
  rw [hn] at c3
  obtain ⟨a0, ha0⟩ : ∃ a, a = sof (d0 l).1 := ⟨_, rfl⟩
  obtain ⟨a1, ha1⟩ : ∃ a, a = (d1 l).1 := ⟨_, rfl⟩
  obtain ⟨a2, ha2⟩ : ∃ a, a = (d2 l).1 := ⟨_, rfl⟩
  obtain ⟨a3, ha3⟩ : ∃ a, a = sof (d4 l).1 := ⟨_, rfl⟩
  rw [← ha0] at c0
  rw [← ha1] at c1
  rw [← ha2] at c2
  rw [← ha3] at c4
  have HA0 := Lib.hid ha0
  have HA1 := Lib.hid ha1
  have HA2 := Lib.hid ha2
  have HA3 := Lib.hid ha3
  obtain ⟨s1, hs1⟩ : ∃ s, s = (d0 l).2 := ⟨_, rfl⟩
  obtain ⟨s2, hs2⟩ : ∃ s, s = (d1 l).2 := ⟨_, rfl⟩
  obtain ⟨s3, hs3⟩ : ∃ s, s = (d2 l).2 := ⟨_, rfl⟩
  obtain ⟨s4, hs4⟩ : ∃ s, s = (d3 l).2 := ⟨_, rfl⟩
  obtain ⟨s5, hs5⟩ : ∃ s, s = (d4 l).2 := ⟨_, rfl⟩
  rw [← hs1] at c0 c1
  rw [← hs2] at c1 c2
  rw [← hs3] at c2 c3
  rw [← hs4] at c3 c4
  rw [← hs5] at c4 hle
  have HS5 := Lib.hid hs5
  have HLE := Lib.hid hle
  have HZ0 := Lib.hid hZ0
  have HBEL := Lib.hid hBel
  have RW := Lib.hid hRd
  have BW := Lib.hid hBx
  have ZW := Lib.hid zW
  have hbR : w.heap.size + 1 + 1 < W0.heap.size := by omega
  have qw := hBx.cell
  clear hW0 zW hRd hBx hZ0 hBel hl0 hla hlb hlc hld hle r3 hn hn2 ha0 ha1 ha2 ha3 hs1 hs2 hs3 hs4 hs5
  go_enter Try.func32, Try.ntmps32
  go_wp2_with fail
  rw [HW0.out]
  refine (c0.out _ RW.out).mono ?_
  rintro e u0 ⟨rfl, h0, ho0⟩
  have k0 := Lib.hid (ho0.kp RW.out (ts := [86]) (by simp))
  have z0 := ho0.size
  obtain ⟨bM, hbM⟩ : ∃ b, b = u0.heap.size := ⟨_, rfl⟩
  have hbMw : w.heap.size + 1 + 1 < bM := by omega
  obtain ⟨v0, hv0⟩ : ∃ v, v = u0.alloc (.cells #[.string a0, .int .i64 0, .int .i64 0, .string ⟨#[]⟩, .slice none 0 0, .slice none 0 0, .slice none 0 0] 26) := ⟨_, rfl⟩
  have HV0 := Lib.hid hv0.symm
  have b0 : ∀ k, k < u0.heap.size → v0.heap[k]? = u0.heap[k]? := fun k hk => hv0 ▸ heap_alloc_old u0 _ hk
  have M0 := Lib.hid (show MB v0 bM a0 0 0 ⟨#[]⟩ (.slice none 0 0) (.slice none 0 0) (.slice none 0 0) from hbM ▸ hv0 ▸ heap_alloc_new _ _)
  have R0 := Lib.hid (show Rd (w.heap.size + 1) s1 v0 from (b0 _ h0.lt).trans h0)
  have N0 := Lib.hid (show ∀ k, k < bM → k ≠ w.heap.size + 1 → v0.heap[k]? = W0.heap[k]? ∨ W0.heap.size ≤ k from fun k hk h1 => by
    by_cases hk2 : k < W0.heap.size
    · exact .inl ((b0 k (by omega)).trans (ho0.block k hk2 h1))
    · exact .inr (by omega))
  have O0 := Lib.hid (show v0.os = W0.os ∧ v0.tape = W0.tape ∧ v0.output = W0.output from hv0 ▸ ⟨ho0.os, ho0.tape, ho0.output⟩)
  have B0 := Lib.hid (show Boxed v0 (w.heap.size + 1 + 1) 84 (.pointer (some ⟨w.heap.size + 1, 0, none⟩)) from (box_kp BW.out k0.out (by decide)).alloc _ |> fun h => hv0 ▸ h)
  have zv0 : v0.heap.size = bM + 1 := by rw [hv0, hbM]; simp
  have qu := (box_kp BW.out k0.out (by decide)).cell
  have hbR2 : w.heap.size + 1 + 1 < u0.heap.size := by omega
  have ZV0 := Lib.hid (show bM + 1 ≤ v0.heap.size by omega)
  have HBM := Lib.hid hbM
  clear h0 ho0 hv0 b0 qw zv0 hbM
  go_wp2_with fail
  rw [HV0.out, ← HBM.out]

  refine (c1.out _ R0.out).mono ?_
  rintro e u1 ⟨rfl, h1, ho1⟩
  have k1 := Lib.hid (ho1.kp R0.out (ts := [86]) (by simp))
  have MU1 := Lib.hid (show MB u1 bM a0 0 0 ⟨#[]⟩ (.slice none 0 0) (.slice none 0 0) (.slice none 0 0) from k1.out _ _ _ _ M0.out (by decide))
  have BU1 := Lib.hid (box_kp B0.out k1.out (by decide))
  have ZU1 := Lib.hid (Nat.le_trans ZV0.out ho1.size)
  have NU1 := Lib.hid (show ∀ k, k < bM → k ≠ w.heap.size + 1 → u1.heap[k]? = v0.heap[k]? from fun k hk h1 => ho1.block k (by have := ZV0.out; omega) h1)
  have p0_1 := heap_cell (show u1.heap[bM]? = _ from MU1.out) 1
  have p1_1 := heap_free (show u1.heap[bM]? = _ from MU1.out) 1
  simp only [List.getElem?_toArray, List.getElem?_cons_succ, List.getElem?_cons_zero] at p0_1
  obtain ⟨v1, hv1⟩ : ∃ v, v = u1.setCell ⟨bM, 1, none⟩ (.int .i64 a1) := ⟨_, rfl⟩
  have hv1' := hv1.symm
  have s1 : ∀ k, k ≠ bM → v1.heap[k]? = u1.heap[k]? := fun k hk => by rw [hv1]; exact Below.heap_setCell _ _ _ _ hk
  have M1 := Lib.hid (show MB v1 bM a0 a1 0 ⟨#[]⟩ (.slice none 0 0) (.slice none 0 0) (.slice none 0 0) from by unfold MB; rw [hv1, heap_setCell_same u1 bM 1 _ _ _ MU1.out]; rfl)
  have R1 := Lib.hid (show Rd (w.heap.size + 1) s2 v1 from (s1 _ (by omega)).trans h1)
  have B1 := Lib.hid (show Boxed v1 (w.heap.size + 1 + 1) 84 (.pointer (some ⟨w.heap.size + 1, 0, none⟩)) from (s1 _ (by omega)).trans BU1.out)
  have ZV1 := Lib.hid (show bM + 1 ≤ v1.heap.size by have := ZU1.out; rw [hv1]; simpa using this)
  have N1 := Lib.hid (show ∀ k, k < bM → k ≠ w.heap.size + 1 → v1.heap[k]? = W0.heap[k]? ∨ W0.heap.size ≤ k from fun k hk h1 => by
    rw [s1 k (by omega), NU1.out k hk h1]; exact N0.out k hk h1)
  have O1 := Lib.hid (show v1.os = W0.os ∧ v1.tape = W0.tape ∧ v1.output = W0.output from hv1 ▸ ⟨ho1.os.trans O0.out.1, ho1.tape.trans O0.out.2.1, ho1.output.trans O0.out.2.2⟩)
  have qv1 := B1.out.cell
  clear h1 ho1 hv1 s1
  go_wp2_with fail
  refine (c2.out _ R1.out).mono ?_
  rintro e u2 ⟨rfl, h2, ho2⟩
  have k2 := Lib.hid (ho2.kp R1.out (ts := [86]) (by simp))
  have MU2 := Lib.hid (show MB u2 bM a0 a1 0 ⟨#[]⟩ (.slice none 0 0) (.slice none 0 0) (.slice none 0 0) from k2.out _ _ _ _ M1.out (by decide))
  have BU2 := Lib.hid (box_kp B1.out k2.out (by decide))
  have ZU2 := Lib.hid (Nat.le_trans ZV1.out ho2.size)
  have NU2 := Lib.hid (show ∀ k, k < bM → k ≠ w.heap.size + 1 → u2.heap[k]? = v1.heap[k]? from fun k hk h1 => ho2.block k (by have := ZV1.out; omega) h1)
  have p0_2 := heap_cell (show u2.heap[bM]? = _ from MU2.out) 2
  have p1_2 := heap_free (show u2.heap[bM]? = _ from MU2.out) 2
  simp only [List.getElem?_toArray, List.getElem?_cons_succ, List.getElem?_cons_zero] at p0_2
  obtain ⟨v2, hv2⟩ : ∃ v, v = u2.setCell ⟨bM, 2, none⟩ (.int .i64 a2) := ⟨_, rfl⟩
  have hv2' := hv2.symm
  have s2 : ∀ k, k ≠ bM → v2.heap[k]? = u2.heap[k]? := fun k hk => by rw [hv2]; exact Below.heap_setCell _ _ _ _ hk
  have M2 := Lib.hid (show MB v2 bM a0 a1 a2 ⟨#[]⟩ (.slice none 0 0) (.slice none 0 0) (.slice none 0 0) from by unfold MB; rw [hv2, heap_setCell_same u2 bM 2 _ _ _ MU2.out]; rfl)
  have R2 := Lib.hid (show Rd (w.heap.size + 1) s3 v2 from (s2 _ (by omega)).trans h2)
  have B2 := Lib.hid (show Boxed v2 (w.heap.size + 1 + 1) 84 (.pointer (some ⟨w.heap.size + 1, 0, none⟩)) from (s2 _ (by omega)).trans BU2.out)
  have ZV2 := Lib.hid (show bM + 1 ≤ v2.heap.size by have := ZU2.out; rw [hv2]; simpa using this)
  have N2 := Lib.hid (show ∀ k, k < bM → k ≠ w.heap.size + 1 → v2.heap[k]? = W0.heap[k]? ∨ W0.heap.size ≤ k from fun k hk h1 => by
    rw [s2 k (by omega), NU2.out k hk h1]; exact N1.out k hk h1)
  have O2 := Lib.hid (show v2.os = W0.os ∧ v2.tape = W0.tape ∧ v2.output = W0.output from hv2 ▸ ⟨ho2.os.trans O1.out.1, ho2.tape.trans O1.out.2.1, ho2.output.trans O1.out.2.2⟩)
  have qv2 := B2.out.cell
  clear h2 ho2 hv2 s2
  go_wp2_with fail
  refine (c3.out _ R2.out).mono ?_
  rintro e u3 ⟨rfl, h3, ho3⟩
  have k3 := Lib.hid (ho3.kp R2.out (ts := [86]) (by simp))
  have MU3 := Lib.hid (show MB u3 bM a0 a1 a2 ⟨#[]⟩ (.slice none 0 0) (.slice none 0 0) (.slice none 0 0) from k3.out _ _ _ _ M2.out (by decide))
  have BU3 := Lib.hid (box_kp B2.out k3.out (by decide))
  have ZU3 := Lib.hid (Nat.le_trans ZV2.out ho3.size)
  have NU3 := Lib.hid (show ∀ k, k < bM → k ≠ w.heap.size + 1 → u3.heap[k]? = v2.heap[k]? from fun k hk h1 => ho3.block k (by have := ZV2.out; omega) h1)
  obtain ⟨v3, hv3⟩ : ∃ v, v = u3 := ⟨_, rfl⟩
  subst hv3
  have M3 := MU3
  have R3 := Lib.hid h3
  have B3 := BU3
  have ZV3 := ZU3
  have N3 := Lib.hid (show ∀ k, k < bM → k ≠ w.heap.size + 1 → v3.heap[k]? = W0.heap[k]? ∨ W0.heap.size ≤ k from fun k hk h1 => by
    rw [NU3.out k hk h1]; exact N2.out k hk h1)
  have O3 := Lib.hid (show v3.os = W0.os ∧ v3.tape = W0.tape ∧ v3.output = W0.output from ⟨ho3.os.trans O2.out.1, ho3.tape.trans O2.out.2.1, ho3.output.trans O2.out.2.2⟩)
  have qv3 := B3.out.cell
  clear h3 ho3
  go_wp2_with fail
  refine (c4.out _ R3.out).mono ?_
  rintro e u4 ⟨rfl, h4, ho4⟩
  have k4 := Lib.hid (ho4.kp R3.out (ts := [86]) (by simp))
  have MU4 := Lib.hid (show MB u4 bM a0 a1 a2 ⟨#[]⟩ (.slice none 0 0) (.slice none 0 0) (.slice none 0 0) from k4.out _ _ _ _ M3.out (by decide))
  have BU4 := Lib.hid (box_kp B3.out k4.out (by decide))
  have ZU4 := Lib.hid (Nat.le_trans ZV3.out ho4.size)
  have NU4 := Lib.hid (show ∀ k, k < bM → k ≠ w.heap.size + 1 → u4.heap[k]? = v3.heap[k]? from fun k hk h1 => ho4.block k (by have := ZV3.out; omega) h1)
  have p0_4 := heap_cell (show u4.heap[bM]? = _ from MU4.out) 3
  have p1_4 := heap_free (show u4.heap[bM]? = _ from MU4.out) 3
  simp only [List.getElem?_toArray, List.getElem?_cons_succ, List.getElem?_cons_zero] at p0_4
  obtain ⟨v4, hv4⟩ : ∃ v, v = u4.setCell ⟨bM, 3, none⟩ (.string a3) := ⟨_, rfl⟩
  have hv4' := hv4.symm
  have s4 : ∀ k, k ≠ bM → v4.heap[k]? = u4.heap[k]? := fun k hk => by rw [hv4]; exact Below.heap_setCell _ _ _ _ hk
  have M4 := Lib.hid (show MB v4 bM a0 a1 a2 a3 (.slice none 0 0) (.slice none 0 0) (.slice none 0 0) from by unfold MB; rw [hv4, heap_setCell_same u4 bM 3 _ _ _ MU4.out]; rfl)
  have R4 := Lib.hid (show Rd (w.heap.size + 1) s5 v4 from (s4 _ (by omega)).trans h4)
  have B4 := Lib.hid (show Boxed v4 (w.heap.size + 1 + 1) 84 (.pointer (some ⟨w.heap.size + 1, 0, none⟩)) from (s4 _ (by omega)).trans BU4.out)
  have ZV4 := Lib.hid (show bM + 1 ≤ v4.heap.size by have := ZU4.out; rw [hv4]; simpa using this)
  have N4 := Lib.hid (show ∀ k, k < bM → k ≠ w.heap.size + 1 → v4.heap[k]? = W0.heap[k]? ∨ W0.heap.size ≤ k from fun k hk h1 => by
    rw [s4 k (by omega), NU4.out k hk h1]; exact N3.out k hk h1)
  have O4 := Lib.hid (show v4.os = W0.os ∧ v4.tape = W0.tape ∧ v4.output = W0.output from hv4 ▸ ⟨ho4.os.trans O3.out.1, ho4.tape.trans O3.out.2.1, ho4.output.trans O3.out.2.2⟩)
  have qv4 := B4.out.cell
  clear h4 ho4 hv4 s4
  go_wp2_with fail
  have J1 : I1 (w.heap.size + 1) (w.heap.size + 1 + 1) bM (bM + 1) a0 a3 a1 a2 v4 [] s5 v4 := ⟨R4.out, HLE.out, B4.out, ⟨ZV4.out, fun _ _ _ _ => rfl, rfl, rfl, rfl⟩, .slice none 0 0, M4.out, ExpOwn.nil _ _⟩
  have t1 := Lib.hid (times1 (by omega) (by omega) s5 v4 HLE.out J1)
  rw [show reps decExp (numb 1 s5).1.toNat (numb 1 s5).2 = d5 l by rw [HS5.out]; rfl] at t1
  obtain ⟨es, hes⟩ : ∃ x, x = (d5 l).1 := ⟨_, rfl⟩
  obtain ⟨s6, hs6⟩ : ∃ x, x = (d5 l).2 := ⟨_, rfl⟩
  rw [← hes, ← hs6] at t1
  have HES := Lib.hid hes
  have HS6 := Lib.hid hs6
  clear hes hs6 J1
  refine (t1.out).mono ?_
  rintro e v5 ⟨⟨u5, rfl⟩, R5, hl5, B5, K5, vE, M5, E5⟩
  have q5 := B5.cell
  have J2 : I2 (w.heap.size + 1) (w.heap.size + 1 + 1) bM (bM + 1) a0 a3 a1 a2 vE es v4 [] s6 v5 := ⟨R5, hl5, B5, K5, E5, _, M5, ImpOwn.nil _ _⟩
  have t2 := Lib.hid (times2 (by omega) (by omega) s6 v5 hl5 J2)
  rw [show reps decImp (numb 1 s6).1.toNat (numb 1 s6).2 = d6 l by rw [HS6.out]; rfl] at t2
  obtain ⟨is, his⟩ : ∃ x, x = (d6 l).1 := ⟨_, rfl⟩
  obtain ⟨s7, hs7⟩ : ∃ x, x = (d6 l).2 := ⟨_, rfl⟩
  rw [← his, ← hs7] at t2
  have HIS := Lib.hid his
  have HS7 := Lib.hid hs7
  clear his hs7 J2 R5 hl5 B5 K5 M5 E5 t1 qv4
  go_wp2_with fail
  refine (t2.out).mono ?_
  rintro e v6 ⟨⟨u6, rfl⟩, R6, hl6, B6, K6, E6, vI, M6, G6⟩
  have q6 := B6.cell
  have J3 : I3 (w.heap.size + 1) (w.heap.size + 1 + 1) bM (bM + 1) a0 a3 a1 a2 vE vI es is v4 [] s7 v6 := ⟨R6, hl6, B6, K6, E6, G6, _, M6, PatOwn.nil _ _⟩
  have t3 := Lib.hid (times3 (by omega) (by omega) s7 v6 hl6 J3)
  rw [show reps decPat (numb 1 s7).1.toNat (numb 1 s7).2 = d7 l by rw [HS7.out]; rfl] at t3
  obtain ⟨ps, hps⟩ : ∃ x, x = (d7 l).1 := ⟨_, rfl⟩
  obtain ⟨s8, hs8⟩ : ∃ x, x = (d7 l).2 := ⟨_, rfl⟩
  rw [← hps, ← hs8] at t3
  have HPS := Lib.hid hps
  have HS8 := Lib.hid hs8
  clear hps hs8 J3 R6 hl6 B6 K6 M6 E6 G6 t2 q5
  go_wp2_with fail
  refine (t3.out).mono ?_
  rintro e v7 ⟨⟨u7, rfl⟩, R7, hl7, B7, K7, E7, G7, vP, M7, P7⟩
  have q7 := B7.cell
  obtain ⟨e0, e1, _, _⟩ := R7.cells
  obtain ⟨eA, eC, rfl, hE⟩ := E7.row
  obtain ⟨iA, iC, rfl, hI⟩ := G7.row
  obtain ⟨pA, pC, rfl, hP⟩ := P7.row
  -- the block of the result
  have hZ7 : v7.heap[w.heap.size]? = some (.cells #[.string ⟨#[]⟩, .int .i64 0, .int .i64 0, .string ⟨#[]⟩, .slice none 0 0, .slice none 0 0, .slice none 0 0] 26 (0, 0)) := by
    rw [K7.low _ (by omega) (by omega) (by omega)]
    rcases N4.out w.heap.size (by omega) (by omega) with h | h
    · rw [h]; exact HZ0.out
    · have := ZW.out; omega
  have hBel : Below w.heap.size w v7 := by
    refine ⟨K7.os.1.trans (O4.out.1.trans HBEL.out.os), K7.os.2.1.trans (O4.out.2.1.trans HBEL.out.tape), K7.os.2.2.trans (O4.out.2.2.trans HBEL.out.output), by have := K7.size; omega, fun k hk => ?_⟩
    rw [K7.low k (by omega) (by omega) (by omega)]
    rcases N4.out k (by omega) (by omega) with h | h
    · rw [h]; exact HBEL.out.block k hk
    · have := ZW.out; omega
  have z0' := heap_cell hZ7 0
  have z1' := heap_cell hZ7 1
  have z2' := heap_cell hZ7 2
  have z3' := heap_cell hZ7 3
  have z4' := heap_cell hZ7 4
  have z5' := heap_cell hZ7 5
  have z6' := heap_cell hZ7 6
  have zf := fun o => heap_free hZ7 o
  have m0 := heap_cell (show v7.heap[bM]? = _ from M7) 0
  have m1 := heap_cell (show v7.heap[bM]? = _ from M7) 1
  have m2 := heap_cell (show v7.heap[bM]? = _ from M7) 2
  have m3 := heap_cell (show v7.heap[bM]? = _ from M7) 3
  have m4 := heap_cell (show v7.heap[bM]? = _ from M7) 4
  have m5 := heap_cell (show v7.heap[bM]? = _ from M7) 5
  have m6 := heap_cell (show v7.heap[bM]? = _ from M7) 6
  simp only [List.getElem?_toArray, List.getElem?_cons_succ, List.getElem?_cons_zero] at z0' z1' z2' z3' z4' z5' z6' m0 m1 m2 m3 m4 m5 m6
  have HZ7 := Lib.hid hZ7
  have HB7 := Lib.hid hBel
  have hbw7 : w.heap.size < v7.heap.size := by have := K7.size; omega
  have hbM7 : bM < v7.heap.size := by have := K7.size; omega
  have HE1 := Lib.hid E7
  have HI1 := Lib.hid G7
  have HP1 := Lib.hid P7
  have HQ := Lib.hid (show es.length ≤ big ∧ (∀ x ∈ es, x.name.size ≤ big) ∧ is.length ≤ big ∧ (∀ x ∈ is, x.mod.size ≤ big ∧ x.name.size ≤ big) ∧ ps.length ≤ big ∧ a0.size ≤ big ∧ a3.size ≤ big by
    have hs := HES.out
    have h1 := reps_length decExp (numb 1 (d4 l).2).1.toNat (numb 1 (d4 l).2).2
    have h2 := numb_one (d4 l).2
    have h3 := reps_length decImp (numb 1 (d5 l).2).1.toNat (numb 1 (d5 l).2).2
    have h4 := numb_one (d5 l).2
    have h5 := reps_length decPat (numb 1 (d6 l).2).1.toNat (numb 1 (d6 l).2).2
    have h6 := numb_one (d6 l).2
    have g1 : es.length ≤ 255 := by rw [hs]; show (reps decExp _ _).1.length ≤ _; omega
    have g2 : is.length ≤ 255 := by rw [HIS.out]; show (reps decImp _ _).1.length ≤ _; omega
    have g3 : ps.length ≤ 255 := by rw [HPS.out]; show (reps decPat _ _).1.length ≤ _; omega
    have nb : ∀ st, (sof (nam st).1).size ≤ big := fun st => by rw [sof_size]; have := nam_le st; unfold big; omega
    refine ⟨by unfold big; omega, ?_, by unfold big; omega, ?_, by unfold big; omega, ?_, ?_⟩
    · rw [hs]; exact reps_all (Q := fun x : Exp => x.name.size ≤ big) (fun st => nb st) _ _
    · rw [HIS.out]; exact reps_all (Q := fun x : Imp => x.mod.size ≤ big ∧ x.name.size ≤ big) (fun st => ⟨nb st, nb _⟩) _ _
    · rw [HA0.out]; exact nb _
    · rw [HA3.out, sof_size]
      have h7 := txt_le (d3 l).1.toNat (d3 l).2
      have h8 := (numb_range 2 (d2 l).2 (by omega)).2
      change (d3 l).1 ≤ 65535 at h8
      show (txt _ _).1.length ≤ _
      unfold big; omega)
  clear hE hI hP
  clear R7 hl7 B7 K7 M7 E7 G7 P7 t3 q6 hZ7 hBel
  cases s8 with
  | none =>
    simp only [Option.isNone_none] at e1
    have HERR := Lib.hid (show decErr l = 1 by unfold decErr; rw [← HS8.out, if_pos (by simp)])
    clear e0 m0 m1 m2 m3 m4 m5 m6 HE1 HI1 HP1
    go_wp2_with fail
    obtain ⟨hg, ho⟩ := set7 HZ7.out (.string ⟨#[]⟩) (.int .i64 0) (.int .i64 0) (.string ⟨#[]⟩) (.slice none 0 0) (.slice none 0 0) (.slice none 0 0)
    refine bodyPost_ret (results_cell_tmp rfl _ _ w.heap.size 26 _ (0, 0) _ rfl hg Try.underlying26 rfl Try.sizeModule) rfl ?_
    refine ⟨⟨zeroMod, by rw [HERR.out]; rfl, zero_ok _, by rw [zero_res (by rw [HERR.out]; decide)]; exact ⟨rfl, rfl, rfl, rfl, rfl, rfl, rfl⟩⟩, HB7.out.trans (ho.below (by omega))⟩
  | some r =>
    simp only [Option.isNone_some, left] at e1 e0
    by_cases hr : r = []
    · subst hr
      obtain ⟨mm, hmm⟩ : ∃ mm : Mod, mm = ⟨a0, a1, a2, a3, es, is, ps, eA, eC, iA, iC, pA, pC⟩ := ⟨_, rfl⟩
      have hok : mm.ok v7 := by
        rw [hmm]
        exact mk_ok HE1.out HI1.out HP1.out HQ.out
      have hsame : SameC mm (rawMod l) := by
        rw [hmm]
        exact ⟨HA0.out, HA1.out, HA2.out, HA3.out, HES.out, HIS.out, HPS.out⟩
      have cC := Lib.hid (Check_any mm v7 hok)
      have HERR := Lib.hid (show modErr mm = decErr l by unfold decErr; rw [← HS8.out, if_neg (by simp)]; exact hsame.err)
      have HSAME := Lib.hid hsame
      have HMM := Lib.hid hmm
      have hmv : mm.v = .agg #[.string a0, .int .i64 a1, .int .i64 a2, .string a3, .slice eA es.length eC, .slice iA is.length iC, .slice pA ps.length pC] := by rw [hmm]
      have HMV := Lib.hid hmv
      rw [hmv] at cC
      obtain ⟨E, hE⟩ : ∃ E, E = modErr mm := ⟨_, rfl⟩
      rw [← hE] at cC HERR
      clear hmm hok hsame hmv hE
      by_cases t0 : E = 0
      · subst t0
        go_wp2_with (go_at_call 36; refine (cC.out).mono ?_; rintro e w8 ⟨rfl, hb8⟩; obtain ⟨hc8, hf8⟩ := bcell hb8)
        obtain ⟨hg, ho⟩ := set7 ((hb8.block _ hbw7).trans HZ7.out) (.string a0) (.int .i64 a1) (.int .i64 a2) (.string a3) (.slice eA es.length eC) (.slice iA is.length iC) (.slice pA ps.length pC)
        refine bodyPost_ret (results_cell_tmp rfl _ _ w.heap.size 26 _ (0, 0) _ rfl hg Try.underlying26 rfl Try.sizeModule) rfl ?_
        refine ⟨⟨mm, by rw [← HERR.out, HMV.out]; rfl, ?_, ?_⟩, HB7.out.trans ((hb8.mono (by omega)).trans (ho.below (by have := hb8.size; omega)))⟩
        · have hk : ∀ g, bM + 1 ≤ g → g < v7.heap.size → _ := fun g h1 h2 => (ho.block g (by have := hb8.size; omega) (by omega)).trans (hb8.block g h2)
          rw [HMM.out]
          exact mk_ok (own_same HE1.out hk) (own_same HI1.out hk) (own_same HP1.out hk) HQ.out
        · rw [show decRes l = rawMod l by unfold decRes; rw [if_neg (by rw [← HERR.out]; decide)]]
          exact HSAME.out
      · have t0' : (E != 0) = true := by simp [t0]
        have hne : decErr l ≠ 0 := by rw [← HERR.out]; exact t0
        have HNE := Lib.hid hne
        clear t0 hne
        go_wp2_with (go_at_call 36; refine (cC.out).mono ?_; rintro e w8 ⟨rfl, hb8⟩; obtain ⟨hc8, hf8⟩ := bcell hb8)
        obtain ⟨hg, ho⟩ := set7 ((hb8.block _ hbw7).trans HZ7.out) (.string ⟨#[]⟩) (.int .i64 0) (.int .i64 0) (.string ⟨#[]⟩) (.slice none 0 0) (.slice none 0 0) (.slice none 0 0)
        refine bodyPost_ret (results_cell_tmp rfl _ _ w.heap.size 26 _ (0, 0) _ rfl hg Try.underlying26 rfl Try.sizeModule) rfl ?_
        exact ⟨⟨zeroMod, by rw [← HERR.out]; rfl, zero_ok _, by rw [zero_res HNE.out]; exact ⟨rfl, rfl, rfl, rfl, rfl, rfl, rfl⟩⟩, HB7.out.trans ((hb8.mono (by omega)).trans (ho.below (by have := hb8.size; omega)))⟩
    · have hre : r.isEmpty = false := by simp [hr]
      have HERR := Lib.hid (show decErr l = 1 by unfold decErr; rw [← HS8.out, if_pos (by simp [hr])])
      clear m0 m1 m2 m3 m4 m5 m6 HE1 HI1 HP1 hr
      go_wp2_with fail
      obtain ⟨hg, ho⟩ := set7 HZ7.out (.string ⟨#[]⟩) (.int .i64 0) (.int .i64 0) (.string ⟨#[]⟩) (.slice none 0 0) (.slice none 0 0) (.slice none 0 0)
      refine bodyPost_ret (results_cell_tmp rfl _ _ w.heap.size 26 _ (0, 0) _ rfl hg Try.underlying26 rfl Try.sizeModule) rfl ?_
      refine ⟨⟨zeroMod, by rw [HERR.out]; rfl, zero_ok _, by rw [zero_res (by rw [HERR.out]; decide)]; exact ⟨rfl, rfl, rfl, rfl, rfl, rfl, rfl⟩⟩, HB7.out.trans (ho.below (by omega))⟩

end Go.Proofs.Ytdpacbdejfjkcaa
