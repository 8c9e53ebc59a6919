import Derived.Test.YtpmjgkngkaleeaaJourInv
import Derived.Test.YtpmjgkngkaleeaaRTornW
/- What a crash leaves (chapter L): the plain law, and what lies in memory. -/
namespace Go.Proofs.Ytpmjgkngkaleeaa
open Go.RowKit

/-- a flash that stays ours, whatever crash there is; N: how many bytes may be needed so far -/
structure OInv (n : Nat) (F R : List ByteArray) (k e N j : Nat) : Prop where
  ok : flErr F = 0
  len : F.length = n
  load : jload (flat F) = some (k, R, e)
  need : e + 5 * k + 256 ≤ N
  many : R.length ≤ j
theorem OInv.later {n : Nat} {F R : List ByteArray} {k e N j : Nat} (h : OInv n F R k e N j) : OInv n F R k e N (j + 1) := ⟨h.ok, h.len, h.load, h.need, Nat.le_succ_of_le h.many⟩
theorem OInv.err {n : Nat} {F R : List ByteArray} {k e N j m : Nat} (h : OInv n F R k e N j) (ha : appErr F m ≠ 0) (h1 : m ≠ 0) (h8 : m ≤ 800) : appErr F m = 8 ∧ 128 * n < N + m + 8 := by
  unfold appErr at ha ⊢
  rw [if_pos h.ok, if_neg h1, if_neg (by omega)] at ha ⊢
  unfold addErr at ha ⊢
  rw [h.load] at ha ⊢
  simp only at ha ⊢
  by_cases hr : (flat F).length < e + m + 5 + 5 * (k + 1)
  · rw [if_pos hr]
    refine ⟨rfl, ?_⟩
    rw [flat_len h.ok, h.len] at hr
    have := h.need
    omega
  · rw [if_neg hr] at ha; exact absurd rfl ha
/-- behind q deeds, the next one torn or not -/
def Crash (F : List ByteArray) (D : List Ded) (q : Nat) (Y : List ByteArray) : Prop :=
  Y = doneL F (D.take q) ∨ ∃ (d : Ded) (p : Nat → Nat), D[q]? = some d ∧ Y = turned (doneL F (D.take q)) d p
theorem deeds_ok {F : List ByteArray} {s : ByteArray} (ha : appErr F s.size = 0) : flErr F = 0 ∧ (∀ d ∈ appDeeds F (bytesOf s), dedErr F.length d = 0) ∧ 0 < (appDeeds F (bytesOf s)).length := by
  rw [← bytes_length] at ha
  obtain ⟨k, r, e0, e, ho, hf, hd⟩ := app_fits ha
  exact ⟨hf.ok, by rw [hd]; exact addD_ok hf, (open_after ha).2.2.2.2⟩
theorem crash_ok {F Y : List ByteArray} {D : List Ded} {q : Nat} (hf : flErr F = 0) (hd : ∀ d ∈ D, dedErr F.length d = 0) (h : Crash F D q Y) : flErr Y = 0 ∧ Y.length = F.length := by
  obtain ⟨h1, h2⟩ := doneL_ok hf (l := D.take q) fun d hm => hd d (List.mem_of_mem_take hm)
  rcases h with rfl | ⟨d, p, hm, rfl⟩
  · exact ⟨h1, h2⟩
  · exact ⟨turned_ok p h1 (by rw [h2]; exact hd d (List.mem_of_getElem? hm)), (turned_length ..).trans h2⟩
theorem OInv.crash {n : Nat} {F R Y : List ByteArray} {k e N j q : Nat} {s : ByteArray} (h : OInv n F R k e N j) (ha : appErr F s.size = 0) (hq : q ≤ (appDeeds F (bytesOf s)).length) (hc : Crash F (appDeeds F (bytesOf s)) q Y) :
    (∃ k' e', OInv n Y R k' e' (N + (s.size + 8)) (j + 1) ∧ q ≠ (appDeeds F (bytesOf s)).length) ∨ (∃ k' e', OInv n Y (R ++ [s]) k' e' (N + (s.size + 8)) (j + 1)) := by
  have ha2 := ha
  rw [← bytes_length] at ha2
  obtain ⟨d1, d2, _⟩ := deeds_ok ha
  obtain ⟨y1, y2⟩ := crash_ok d1 d2 hc
  obtain ⟨k', r', e0', e', ho, hf, hd⟩ := app_fits ha2
  have hj := ho.load
  rw [h.load] at hj
  simp only [Option.some.injEq, Prod.mk.injEq] at hj
  obtain ⟨rfl, rfl, rfl⟩ := hj
  have hn := h.need
  have hm := h.many
  have hsl := bytes_length s
  have hlen : (addD e (128 * F.length - 5 * (k + 1)) (bytesOf s)).length = (headD F k e (bytesOf s)).length + 1 := by rw [addD_eq, List.length_append, List.length_singleton]
  rw [hd] at hq hc ⊢
  rcases hc with rfl | ⟨d, p, hmm, rfl⟩
  · by_cases hq2 : q = (addD e (128 * F.length - 5 * (k + 1)) (bytesOf s)).length
    · refine .inr ⟨k + 1, e + s.size, ⟨y1, y2.trans h.len, ?_, by omega, by rw [List.length_append, List.length_singleton]; omega⟩⟩
      rw [hq2, List.take_of_length_le (Nat.le_refl _), all_done hf ho, of_bytes, hsl]
    · obtain ⟨k2, e2, h1, h2, h3⟩ := clean_crash hf ho q (by omega)
      exact .inl ⟨k2, e2, ⟨y1, y2.trans h.len, h1, by rw [hsl] at h3; omega, by omega⟩, hq2⟩
  · have hlt : q < (addD e (128 * F.length - 5 * (k + 1)) (bytesOf s)).length := by
      rcases Nat.lt_or_ge q (addD e (128 * F.length - 5 * (k + 1)) (bytesOf s)).length with h1 | h1
      · exact h1
      · rw [List.getElem?_eq_none h1] at hmm; cases hmm
    rcases torn_crash hf ho q d hmm p with ⟨k2, e2, h1, h2, h3⟩ | h1
    · exact .inl ⟨k2, e2, ⟨y1, y2.trans h.len, h1, by rw [hsl] at h3; omega, by omega⟩, by omega⟩
    · refine .inr ⟨k + 1, e + s.size, ⟨y1, y2.trans h.len, ?_, by omega, by rw [List.length_append, List.length_singleton]; omega⟩⟩
      rw [h1, of_bytes, hsl]
theorem OInv.open_ {n : Nat} {F R : List ByteArray} {k e N j : Nat} (h : OInv n F R k e N j) : openErr F = 0 ∧ openRecs F = R := by
  unfold openErr openRecs
  rw [if_pos h.ok, if_pos h.ok, h.load]
  exact ⟨rfl, rfl⟩

abbrev flc' (g : Fl) : Obj := .cells #[.slice g.a g.bl.length g.c] 24 (0, 0)
/-- behind world v: the flash in its block, the records that are there -/
structure OMem (v wr : World) (b0 : Nat) (g : Fl) (v11 : Value) (F R : List ByteArray) : Prop where
  cell : wr.heap[v.heap.size]? = some (flc' g)
  res : FlRes wr b0 g F
  texts : TOwn wr v.heap.size v11 R
  below : Below v.heap.size v wr
def ORel (v : World) (b0 n m : Nat) (v11 nd i : Value) (wr : World) : Prop :=
  ∃ (j : Nat) (g : Fl) (F R : List ByteArray) (k e N : Nat), i = .int .i64 (j : Int) ∧ j ≤ m ∧ nd = .int .i64 (N : Int) ∧ N ≤ 256 + 808 * j ∧ j ≤ 30 ∧ OInv n F R k e N j ∧ OMem v wr b0 g v11 F R
theorem OMem.later {v wr w' : World} {b0 : Nat} {g : Fl} {v11 : Value} {F R : List ByteArray} (h : OMem v wr b0 g v11 F R) (hb : Below wr.heap.size wr w') : OMem v w' b0 g v11 F R :=
  ⟨(hb.block _ (Array.getElem?_eq_some_iff.1 h.cell).1).trans h.cell, ⟨h.res.own.below hb (Nat.le_refl _), h.res.cap, h.res.is⟩, h.texts.below hb (Nat.le_refl _), h.below.trans (hb.mono h.below.size)⟩
/-- another flash is the flash, other texts are there -/
theorem OMem.put {v w' : World} {b0 : Nat} {g y : Fl} {v11 u11 : Value} {F Y R R' : List ByteArray} (h : OMem v w' b0 g v11 F R) (hr : FlRes w' b0 y Y) (ht : TOwn w' v.heap.size u11 R') :
    OMem v (w'.setCell ⟨v.heap.size, 0, none⟩ (.slice y.a y.bl.length y.c)) b0 y u11 Y R' :=
  ⟨heap_setCell_same w' v.heap.size 0 _ _ _ h.cell, ⟨hr.own.set_other h.cell (by decide) 0 _, hr.cap, hr.is⟩, ht.set_other h.cell (by decide) 0 _, h.below.setCell (p := ⟨v.heap.size, 0, none⟩) (Nat.le_refl _) _⟩

set_option maxHeartbeats 1000000 in
theorem NeedOf_any (s : ByteArray) (w : World) (hs : s.size ≤ big) : Calls Try.prog 28 #[.string s] w fun e w' => e = .returned (.int .i64 ((s.size : Int) + 8)) ∧ w' = w := by
  unfold big at hs
  go_enter Try.func28, Try.ntmps28
  go_wp2_with fail
  go_ret
  exact ⟨rfl, rfl⟩

end Go.Proofs.Ytpmjgkngkaleeaa
