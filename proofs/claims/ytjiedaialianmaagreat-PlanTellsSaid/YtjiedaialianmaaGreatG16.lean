import Derived.Test.YtjiedaialianmaaGreatG14
import Derived.Test.YtjiedaialianmaaGreatG13
import Derived.Test.YtjiedaialianmaaGreatG11
section

open Go
namespace Go.Proofs.YtjiedaialianmaaGreat
open Gs (Tx)

/-- a command as it lies in memory -/
structure Cm where
  kind : Int
  m : Mod
  nm : ByteArray
/-- what is wrong with an install, ahead of the last check; what comes of it -/
def instPre (l : List Plc) (m : Mod) : Int :=
  if modErr m ≠ 0 then modErr m else if 0 ≤ idxOf (named m.name) l then 6 else if l.length = 8 then 2 else if fitIn (manyOf m) (runsOf l) < 0 then 8 else 0
def instL (l : List Plc) (m : Mod) : List Plc := withL l m (fitIn (manyOf m) (runsOf l))
def remPre (l : List Plc) (nm : ByteArray) : Int := if idxOf (named nm) l < 0 then 5 else if usedT l nm = true then 4 else 0
def remL (l : List Plc) (nm : ByteArray) : List Plc := l.eraseIdx (idxOf (named nm) l).toNat
/-- where one of that name lies -/
def firstAt (l : List Plc) (nm : ByteArray) : Int := match l.find? (named nm) with
  | some x => x.first
  | none => 0
/-- where a module is put anew; below 0: nowhere -/
def upgAt (l : List Plc) (m : Mod) : Int :=
  if (runsOf (remL l m.name)).any (fitsQ (firstAt l m.name) (manyOf m)) = true then firstAt l m.name else fitIn (manyOf m) (runsOf (remL l m.name))
def upgPre (l : List Plc) (m : Mod) : Int := if modErr m ≠ 0 then modErr m else if idxOf (named m.name) l < 0 then 5 else if upgAt l m < 0 then 8 else 0
def upgL (l : List Plc) (m : Mod) : List Plc := withL (remL l m.name) m (upgAt l m)
def cmPre (c : Cm) (l : List Plc) : Int := if c.kind = 1 then instPre l c.m else if c.kind = 2 then remPre l c.nm else upgPre l c.m
def cmL (c : Cm) (l : List Plc) : List Plc := if c.kind = 1 then instL l c.m else if c.kind = 2 then remL l c.nm else upgL l c.m
/-- what is wrong with a command of a registry that is right -/
def cmErr (k : Krn) (c : Cm) (l : List Plc) : Int := if cmPre c l ≠ 0 then cmPre c l else rgErr k (cmL c l)


theorem withL_bare (l : List Plc) (m : Mod) (f : Int) : bares (withL l m f) = withL (bares l) m.bare f := by
  unfold withL bares
  rw [List.map_append, List.map_cons, List.takeWhile_map, List.dropWhile_map]
  rfl
theorem runsFrom_bare : ∀ (l : List Plc) (a : Int), runsFrom a (bares l) = runsFrom a l
  | [], _ => rfl
  | x :: l, a => by
    show gapRun a x.bare.first ++ runsFrom (endOf x.bare) (bares l) = _
    rw [runsFrom_bare l]; rfl
theorem runsOf_bare (l : List Plc) : runsOf (bares l) = runsOf l := runsFrom_bare l 0
theorem idx_bare (nm : ByteArray) : ∀ l, idxOf (named nm) (bares l) = idxOf (named nm) l
  | [] => rfl
  | x :: l => by
    show idxOf (named nm) (x.bare :: bares l) = _
    unfold idxOf
    rw [idx_bare nm l]; rfl
theorem map_erase {α β : Type} (f : α → β) : ∀ (l : List α) (i : Nat), (l.eraseIdx i).map f = (l.map f).eraseIdx i
  | [], _ => rfl
  | _ :: _, 0 => rfl
  | x :: l, i + 1 => by
    show f x :: (l.eraseIdx i).map f = f x :: (l.map f).eraseIdx i
    rw [map_erase f l i]
theorem remL_bare (l : List Plc) (nm : ByteArray) : bares (remL l nm) = remL (bares l) nm := by
  unfold remL
  rw [idx_bare, bares, map_erase]
theorem dirT_bare (l : List Plc) (a b : Tx) : dirT (bares l) a b = dirT l a b := by
  have h : ∀ l : List Plc, (bares l).find? (isAt a) = (l.find? (isAt a)).map Plc.bare := by
    intro l
    induction l with
    | nil => rfl
    | cons x l ih =>
      show (x.bare :: bares l).find? (isAt a) = _
      rw [List.find?_cons, List.find?_cons, ih]
      have : isAt a x.bare = isAt a x := rfl
      rw [this]
      cases isAt a x <;> rfl
  unfold dirT
  rw [h]
  cases l.find? (isAt a) <;> rfl
theorem usedT_bare (l : List Plc) (nm : ByteArray) : usedT (bares l) nm = usedT l nm := by
  unfold usedT
  rw [bares, List.any_map]
  congr 1
  funext x
  exact dirT_bare l _ _
theorem firstAt_bare (l : List Plc) (nm : ByteArray) : firstAt (bares l) nm = firstAt l nm := by
  unfold firstAt
  rw [find_bare]
  cases l.find? (named nm) <;> rfl
theorem instPre_bare (l : List Plc) (m : Mod) : instPre (bares l) m.bare = instPre l m := by
  unfold instPre
  rw [show m.bare.name = m.name from rfl, idx_bare, runsOf_bare, bares_length]; rfl
theorem instL_bare (l : List Plc) (m : Mod) : bares (instL l m) = instL (bares l) m.bare := by
  unfold instL
  rw [withL_bare, runsOf_bare]; rfl
theorem remPre_bare (l : List Plc) (nm : ByteArray) : remPre (bares l) nm = remPre l nm := by
  unfold remPre
  rw [idx_bare, usedT_bare]
theorem upgAt_bare (l : List Plc) (m : Mod) : upgAt (bares l) m.bare = upgAt l m := by
  unfold upgAt
  rw [show m.bare.name = m.name from rfl, ← remL_bare, runsOf_bare, firstAt_bare]; rfl
theorem upgPre_bare (l : List Plc) (m : Mod) : upgPre (bares l) m.bare = upgPre l m := by
  unfold upgPre
  rw [upgAt_bare, show m.bare.name = m.name from rfl, idx_bare]; rfl
theorem upgL_bare (l : List Plc) (m : Mod) : bares (upgL l m) = upgL (bares l) m.bare := by
  unfold upgL
  rw [withL_bare, remL_bare, upgAt_bare]; rfl
def Cm.bare (c : Cm) : Cm := ⟨c.kind, c.m.bare, c.nm⟩
theorem cmPre_bare (c : Cm) (l : List Plc) : cmPre c.bare (bares l) = cmPre c l := by
  unfold cmPre
  rw [show c.bare.m = c.m.bare from rfl, show c.bare.kind = c.kind from rfl, show c.bare.nm = c.nm from rfl, instPre_bare, remPre_bare, upgPre_bare]
theorem cmL_bare (c : Cm) (l : List Plc) : bares (cmL c l) = cmL c.bare (bares l) := by
  unfold cmL
  rw [show c.bare.m = c.m.bare from rfl, show c.bare.kind = c.kind from rfl, show c.bare.nm = c.nm from rfl]
  split
  · exact instL_bare _ _
  · split
    · exact remL_bare _ _
    · exact upgL_bare _ _
theorem cmPre_like {c c' : Cm} {l l' : List Plc} (hc : c.bare = c'.bare) (hl : bares l = bares l') : cmPre c l = cmPre c' l' := by
  rw [← cmPre_bare c l, hc, hl, cmPre_bare]
theorem cmL_like {c c' : Cm} {l l' : List Plc} (hc : c.bare = c'.bare) (hl : bares l = bares l') : bares (cmL c l) = bares (cmL c' l') := by
  rw [cmL_bare, cmL_bare, hc, hl]

/-- the place at which one is put -/
def putAt (l : List Plc) (first : Int) : Nat := if idxOf (fun x : Plc => decide (first < x.first)) l < 0 then l.length else (idxOf (fun x : Plc => decide (first < x.first)) l).toNat
theorem tw_at {α : Type} {p : α → Bool} : ∀ {l : List α} {j : Nat} (_ : j ≤ l.length), (∀ k (hk : k < l.length), k < j → p l[k] = true) → (∀ hj : j < l.length, p l[j] = false) → l.takeWhile p = l.take j ∧ l.dropWhile p = l.drop j
  | [], 0, _, _, _ => ⟨rfl, rfl⟩
  | x :: l, 0, _, _, h2 => by
    have := h2 (by simp)
    simp only [List.getElem_cons_zero] at this
    rw [List.takeWhile_cons, List.dropWhile_cons, this]
    exact ⟨rfl, rfl⟩
  | x :: l, j + 1, h, h1, h2 => by
    have h0 := h1 0 (by simp) (by omega)
    simp only [List.getElem_cons_zero] at h0
    obtain ⟨i1, i2⟩ := tw_at (p := p) (l := l) (j := j) (by simpa using h) (fun k hk hkj => h1 (k + 1) (by simpa using hk) (by omega)) (fun hj => h2 (by simpa using hj))
    rw [List.takeWhile_cons, List.dropWhile_cons, h0]
    exact ⟨by simp [i1], by simp [i2]⟩
theorem putL_at (l : List Plc) (m : Mod) (first : Int) : putAt l first ≤ l.length ∧ l.take (putAt l first) ++ ⟨m, first⟩ :: l.drop (putAt l first) = withL l m first := by
  unfold putAt
  rcases idxOf_cases (fun x : Plc => decide (first < x.first)) l with ⟨e, hn⟩ | ⟨j, hj, e, hq, hn⟩
  · rw [e, if_pos (by decide)]
    obtain ⟨i1, i2⟩ := tw_all (p := fun x : Plc => decide (x.first ≤ first)) (l := l) (List.all_eq_true.2 fun x hx => by have := hn x hx; simp at this ⊢; exact this)
    unfold withL
    rw [i1, i2]
    exact ⟨Nat.le_refl _, by simp⟩
  · rw [e, if_neg (by omega), Int.toNat_natCast]
    obtain ⟨i1, i2⟩ := tw_at (p := fun x : Plc => decide (x.first ≤ first)) (l := l) (j := j) (by omega) (fun k hk hkj => by have := hn k hk hkj; simp at this ⊢; exact this) (fun hj' => by simp at hq ⊢; exact hq)
    unfold withL
    rw [i1, i2]
    exact ⟨by omega, rfl⟩
theorem withL_length (l : List Plc) (m : Mod) (first : Int) : (withL l m first).length = l.length + 1 := by
  obtain ⟨h1, h2⟩ := putL_at l m first
  rw [← h2]
  simp
  omega
theorem withL_mem {l : List Plc} {m : Mod} {first : Int} {x : Plc} : x ∈ withL l m first ↔ x = ⟨m, first⟩ ∨ x ∈ l := by
  obtain ⟨h1, h2⟩ := putL_at l m first
  rw [← h2, List.mem_append, List.mem_cons]
  have h3 : x ∈ l ↔ x ∈ l.take (putAt l first) ∨ x ∈ l.drop (putAt l first) := by rw [← List.mem_append, List.take_append_drop]
  rw [h3]
  constructor
  · rintro (h | h | h)
    · exact .inr (.inl h)
    · exact .inl h
    · exact .inr (.inr h)
  · rintro (h | h | h)
    · exact .inr (.inl h)
    · exact .inl h
    · exact .inr (.inr h)
theorem find_idx {l : List Plc} {nm : ByteArray} {j : Nat} (h : idxOf (named nm) l = j) : ∃ hj : j < l.length, l[j].m.name = nm ∧ l.find? (named nm) = some l[j] := by
  rcases idxOf_cases (named nm) l with ⟨e, _⟩ | ⟨i, hi, e, hq, hn⟩
  · omega
  · obtain rfl : i = j := by omega
    refine ⟨hi, by simpa [named] using hq, ?_⟩
    rw [List.find?_eq_some_iff_getElem]
    exact ⟨hq, i, hi, rfl, fun k hk => by have := hn k (by omega) hk; simp [this]⟩
theorem firstAt_idx {l : List Plc} {nm : ByteArray} {j : Nat} (h : idxOf (named nm) l = j) : ∃ hj : j < l.length, firstAt l nm = l[j].first := by
  obtain ⟨hj, _, h2⟩ := find_idx h
  exact ⟨hj, by unfold firstAt; rw [h2]⟩


theorem free_none {first many : Int} (hm : 1 ≤ many) : ∀ {l : List Plc} {a : Int}, Row16 a l → first < a → (runsFrom a l).any (fitsQ first many) = false
  | [], a, h, hf => by
    unfold runsFrom gapRun
    split
    · simp [fitsQ]; intro h; omega
    · rfl
  | x :: l, a, ⟨h1, h2, h3, h4⟩, hf => by
    have e : endOf x = x.first + manyOf x.m := rfl
    unfold runsFrom
    rw [List.any_append, free_none hm h4 (by omega), Bool.or_false]
    unfold gapRun
    split
    · simp [fitsQ]; intro h; omega
    · rfl
def inWay (first many : Int) (x : Plc) : Bool := decide (first < x.first) && decide (x.first < first + many)
theorem way_none {first many : Int} : ∀ {l : List Plc} {a : Int}, Row16 a l → first + many ≤ a → l.any (inWay first many) = false
  | [], _, _, _ => rfl
  | x :: l, a, ⟨h1, h2, h3, h4⟩, h => by
    have e : endOf x = x.first + manyOf x.m := rfl
    rw [List.any_cons, way_none h4 (by omega), Bool.or_false]
    simp only [inWay, Bool.and_eq_false_iff, decide_eq_false_iff_not]
    right; omega
theorem free_doc {first many : Int} (hm : 1 ≤ many) : ∀ {l : List Plc} {a : Int}, Row16 a l → a ≤ first → (∀ x ∈ l, endOf x ≤ first ∨ first < x.first) →
    (runsFrom a l).any (fitsQ first many) = (decide (first + many ≤ 16) && !l.any (inWay first many))
  | [], a, h, ha, _ => by
    have h : a ≤ 16 := h
    unfold runsFrom gapRun
    split
    · simp only [List.any_cons, List.any_nil, Bool.or_false, Bool.not_false, Bool.and_true, fitsQ]
      rw [decide_eq_true ha, Bool.true_and]
      congr 1
      simp only [eq_iff_iff]; omega
    · simp only [List.any_nil, Bool.not_false, Bool.and_true]
      symm
      simp; omega
  | x :: l, a, ⟨h1, h2, h3, h4⟩, ha, hx => by
    have e : endOf x = x.first + manyOf x.m := rfl
    have hle := h4.le
    unfold runsFrom
    rw [List.any_append, List.any_cons]
    rcases hx x (by simp) with hx0 | hx0
    · rw [free_doc hm h4 hx0 (fun y hy => hx y (List.mem_cons_of_mem _ hy))]
      have h5 : (gapRun a x.first).any (fitsQ first many) = false := by
        unfold gapRun
        split
        · simp [fitsQ]; intro _; omega
        · rfl
      have h6 : inWay first many x = false := by
        simp only [inWay, Bool.and_eq_false_iff, decide_eq_false_iff_not]
        left; omega
      rw [h5, h6, Bool.false_or, Bool.false_or]
    · rw [free_none hm h4 (by omega), Bool.or_false]
      unfold gapRun
      rw [if_pos (by omega)]
      simp only [List.any_cons, List.any_nil, Bool.or_false, fitsQ]
      rw [decide_eq_true ha, Bool.true_and]
      by_cases h7 : first + many ≤ x.first
      · rw [way_none h4 (by omega), Bool.or_false]
        have h6 : inWay first many x = false := by
          simp only [inWay, Bool.and_eq_false_iff, decide_eq_false_iff_not]
          right; omega
        rw [h6, decide_eq_true (show first + many ≤ 16 by omega)]
        simp; omega
      · have h6 : inWay first many x = true := by
          simp only [inWay, Bool.and_eq_true, decide_eq_true_eq]
          omega
        rw [h6, Bool.true_or, Bool.not_true, Bool.and_false]
        simp; omega
theorem row_low : ∀ {l : List Plc} {a : Int}, Row16 a l → ∀ x ∈ l, a ≤ x.first
  | y :: l, a, ⟨g1, g2, g3, g4⟩, x, hx => by
    rcases List.mem_cons.1 hx with rfl | hx
    · exact g1
    · have := row_low g4 x hx
      have e : endOf y = y.first + manyOf y.m := rfl
      omega
theorem row_parts : ∀ {l : List Plc} {a : Int} {j : Nat}, Row16 a l → ∀ hj : j < l.length, ∀ x ∈ l.eraseIdx j, endOf x ≤ l[j].first ∨ endOf l[j] ≤ x.first
  | y :: l, a, 0, ⟨h1, h2, h3, h4⟩, _, x, hx => .inr (row_low h4 x hx)
  | y :: l, a, j + 1, ⟨h1, h2, h3, h4⟩, hj, x, hx => by
    have hj' : j < l.length := by simpa using hj
    rw [List.eraseIdx_cons_succ] at hx
    rcases List.mem_cons.1 hx with rfl | hx
    · left
      have := row_low h4 l[j] (List.getElem_mem _)
      simpa using this
    · simpa using row_parts h4 hj' x hx
theorem row_first {l : List Plc} {a : Int} (h : Row16 a l) : ∀ x ∈ l, a ≤ x.first ∧ endOf x ≤ 16 := by
  induction l generalizing a with
  | nil => intro x hx; cases hx
  | cons y l ih =>
    obtain ⟨g1, g2, g3, g4⟩ := h
    intro x hx
    have e : endOf y = y.first + manyOf y.m := rfl
    rcases List.mem_cons.1 hx with rfl | hx
    · exact ⟨g1, g4.le⟩
    · have := ih g4 x hx
      exact ⟨by omega, this.2⟩
/-- the document's word for it -/
theorem free_at {l : List Plc} {nm : ByteArray} {many : Int} {j : Nat} (hm : 1 ≤ many) (hr : Row16 0 l) (h : idxOf (named nm) l = j) :
    (runsOf (remL l nm)).any (fitsQ (firstAt l nm) many) = (decide (firstAt l nm + many ≤ 16) && !(l.eraseIdx j).any (inWay (firstAt l nm) many)) := by
  obtain ⟨hj, e⟩ := firstAt_idx h
  unfold remL
  rw [h, Int.toNat_natCast, e]
  refine free_doc hm (hr.erase j) (row_first hr _ (List.getElem_mem hj)).1 (fun x hx => ?_)
  rcases row_parts hr hj x hx with h1 | h1
  · exact .inl h1
  · refine .inr (Int.lt_of_lt_of_le ?_ h1)
    have : ∀ {l : List Plc} {a : Int}, Row16 a l → ∀ x ∈ l, 1 ≤ manyOf x.m := by
      intro l
      induction l with
      | nil => intro a _ x hx; cases hx
      | cons z l ih =>
        intro a ⟨g1, g2, g3, g4⟩ x hx
        rcases List.mem_cons.1 hx with rfl | hx
        · exact g2
        · exact ih g4 x hx
    have := this hr l[j] (List.getElem_mem hj)
    show l[j].first < l[j].first + manyOf l[j].m
    omega

end Go.Proofs.YtjiedaialianmaaGreat
end

section

open Go
namespace Go.Proofs.YtjiedaialianmaaGreat
open Gs (Tx)

/-- an errno of a command that is right -/
theorem cm_zero {k : Krn} {c : Cm} {l : List Plc} (h : cmErr k c l = 0) : cmPre c l = 0 ∧ rgErr k (cmL c l) = 0 := by
  unfold cmErr at h
  by_cases e : cmPre c l = 0
  · rw [if_neg (by omega)] at h; exact ⟨e, h⟩
  · rw [if_pos e] at h; exact absurd h e
theorem rg_nodup {k : Krn} {l : List Plc} (h : rgErr k l = 0) : (txs l).Nodup := not_twice (linkErr_ok (rgErr_ok h).1).2.2.1
theorem rg_reg {k : Krn} {l : List Plc} (h : rgErr k l = 0) : regErr l = 0 := (linkErr_ok (rgErr_ok h).1).2.1


theorem used_doc {l : List Plc} {nm : ByteArray} {j : Nat} (hn : (txs l).Nodup) (h : idxOf (named nm) l = j) : usedT l nm = (List.range l.length).any (fun i => dirN l i j) := by
  obtain ⟨hj, he, _⟩ := find_idx h
  have hnm : tx nm = nmN l j := by rw [nmN_at hj, he]
  rw [Bool.eq_iff_iff]
  unfold usedT
  rw [List.any_eq_true, List.any_eq_true]
  constructor
  · rintro ⟨x, hx, hd⟩
    obtain ⟨i, hi, rfl⟩ := List.getElem_of_mem hx
    refine ⟨i, List.mem_range.2 hi, ?_⟩
    rw [← nmN_at hi, hnm, dir_of hn i j hi hj] at hd
    exact hd
  · rintro ⟨i, hi, hd⟩
    have hi := List.mem_range.1 hi
    refine ⟨l[i], List.getElem_mem hi, ?_⟩
    rw [← nmN_at hi, hnm, dir_of hn i j hi hj]
    exact hd

section
variable {k : Krn} {l : List Plc} {m : Mod}
end




end Go.Proofs.YtjiedaialianmaaGreat
end

section

namespace Go.Proofs.YtjiedaialianmaaGreat
open Go.RowKit Go.Lib

theorem put1_any (x : Plc) (first : Int) (B : Nat) (w : World) (hB : w.cell? ⟨B, 0, none⟩ = some (.int .i64 first)) (hb : B < w.heap.size) :
    Calls Tryz.prog 270 (#[x.v] ++ #[.pointer (some ⟨B, 0, none⟩)]) w fun e w' => e = .returned (.bool (decide (first < x.first))) ∧ Below w.heap.size w w' := by
  obtain ⟨w0, hw0⟩ : ∃ w0, w0 = w.alloc (.cells #[.string x.m.name, .int .i64 x.m.major, .int .i64 x.m.minor, .string x.m.text, .slice x.m.eA x.m.ex.length x.m.eC, .slice x.m.iA x.m.im.length x.m.iC, .slice x.m.pA x.m.pa.length x.m.pC, .int .i64 x.first] 83) := ⟨_, rfl⟩
  obtain ⟨f0, f1, f2, f3, f4, f5, f6, f7, hz, hb0⟩ := box8 hw0
  have k1 := (hb0.cell (p := ⟨B, 0, none⟩) hb).trans hB
  have H0 := Lib.hid hb0
  have hw0' := hw0.symm
  clear hw0 hb0 hz hB hb
  go_enter Tryz.func270, Tryz.ntmps270
  go_wp2_with fail
  go_ret
  exact ⟨rfl, H0.out⟩

/-- cells of a planner's block, and what stays known of it -/
theorem pl_cells {W : World} {base bp : Nat} {k : Krn} {A : Option Addr} {l : List Plc} {c : Nat} (h : PlannerOk W base bp k A l c) :
    bp < W.heap.size ∧ W.cell? ⟨bp, 0, none⟩ = some (.int .i64 k.major) ∧ W.cell? ⟨bp, 1, none⟩ = some (.int .i64 k.minor) ∧ W.cell? ⟨bp, 2, none⟩ = some (.slice k.eA k.ex.length k.eC) ∧ W.cell? ⟨bp, 3, none⟩ = some (.slice A l.length c) ∧ W.frozen? ⟨bp, 3, none⟩ = false :=
  ⟨(Array.getElem?_eq_some_iff.1 h.heap).1, heap_cell h.heap 0, heap_cell h.heap 1, heap_cell h.heap 2, heap_cell h.heap 3, heap_free h.heap 3⟩
/-- the cells of a module in a box -/
theorem box_mod {W : World} {b : Nat} {m : Mod} (h : W.heap[b]? = some (.cells #[.string m.name, .int .i64 m.major, .int .i64 m.minor, .string m.text, .slice m.eA m.ex.length m.eC, .slice m.iA m.im.length m.iC, .slice m.pA m.pa.length m.pC] 70 (0, 0))) :
    W.cell? ⟨b, 0, none⟩ = some (.string m.name) ∧ W.cell? ⟨b, 1, none⟩ = some (.int .i64 m.major) ∧ W.cell? ⟨b, 2, none⟩ = some (.int .i64 m.minor) ∧ W.cell? ⟨b, 3, none⟩ = some (.string m.text) ∧ W.cell? ⟨b, 4, none⟩ = some (.slice m.eA m.ex.length m.eC) ∧ W.cell? ⟨b, 5, none⟩ = some (.slice m.iA m.im.length m.iC) ∧ W.cell? ⟨b, 6, none⟩ = some (.slice m.pA m.pa.length m.pC) :=
  ⟨heap_cell h 0, heap_cell h 1, heap_cell h 2, heap_cell h 3, heap_cell h 4, heap_cell h 5, heap_cell h 6⟩

/-- facts behind the call of Own in put -/
theorem put_b {w2 w3 : World} {base bp B : Nat} {k : Krn} {A : Option Addr} {l : List Plc} {c : Nat} {first : Int} (h : PlannerOk w2 base bp k A l c) (hB : Boxed w2 B 3 (.int .i64 first)) (hb : Below w2.drew.heap.size w2.drew w3) (m' : Mod) (ho : m'.own w3 w2.drew.heap.size) :
    w3.cell? ⟨bp, 3, none⟩ = some (.slice A l.length c) ∧ w3.cell? ⟨B, 0, none⟩ = some (.int .i64 first) ∧ (∀ o, (w3.alloc o).cell? ⟨bp, 3, none⟩ = some (.slice A l.length c)) ∧
    Hid (∀ o, PlannerOk (w3.alloc o) base bp k A l c) ∧ Hid (∀ o, m'.own (w3.alloc o) base) ∧ Hid ((w3.alloc (.cells (plcA ⟨m', first⟩) 83)).heap[w3.heap.size]? = some (.cells (plcA ⟨m', first⟩) 83 (0, 0))) ∧ Hid (∀ a, A = some a → a.block ≠ w3.heap.size) ∧ Hid (∀ o, base ≤ (w3.alloc o).heap.size) := by
  have h2 : PlannerOk w2.drew base bp k A l c := h.below (Below.refl _ w2).drew
  have h3 := h2.below hb
  have hB3 : Boxed w3 B 3 (.int .i64 first) := (hb.block B (Array.getElem?_eq_some_iff.1 hB).1).trans hB
  have ha : ∀ o, PlannerOk (w3.alloc o) base bp k A l c := fun o => h3.below ((Below.refl _ _).alloc (Nat.le_refl _) o)
  refine ⟨(pl_cells h3).2.2.2.2.1, hB3.cell, fun o => (pl_cells (ha o)).2.2.2.2.1, Lib.hid ha, Lib.hid fun o => (ho.below ((Below.refl _ _).alloc (Nat.le_refl _) o)).le h2.size, Lib.hid (heap_alloc_new w3 _), Lib.hid fun a e => ?_, Lib.hid fun o => (ha o).size⟩
  subst e
  have hr := h3.own.mods.row
  rcases hr.2 with ⟨e1, _⟩ | ⟨g, cap, cur, e1, _, e3, _⟩
  · injection e1 with e1; cases e1
  · injection e1 with e1
    have := (Array.getElem?_eq_some_iff.1 e3).1
    injection e1 with e1
    subst e1
    exact Nat.ne_of_lt this
/-- a planner whose row was written anew -/
theorem put_c {w4 w5 : World} {base bp : Nat} {k : Krn} {A A' : Option Addr} {l : List Plc} {c c' n : Nat} {m' : Mod} {first : Int} (h : PlannerOk w4 base bp k A l c) (hm : m'.own w4 base) (hmo : m'.ok w4) (hk : Kp [83] w4 w5) (ho : PlcOwn w5 base (.slice A' n c') (l.take (putAt l first) ++ ⟨m', first⟩ :: l.drop (putAt l first))) (hn : n = l.length + 1) (h8 : l.length ≤ 8) :
    w5.heap[bp]? = some (.cells #[.int .i64 k.major, .int .i64 k.minor, .slice k.eA k.ex.length k.eC, .slice A l.length c] 281 (0, 0)) ∧
    PlannerOk (w5.setCell ⟨bp, 3, none⟩ (.slice A' n c')) base bp k A' (withL l m' first) c' ∧ Kp [83, 281] w4 (w5.setCell ⟨bp, 3, none⟩ (.slice A' n c')) := by
  have h5 := hk _ _ _ _ h.heap (by decide)
  have hks : Kp [281] w5 (w5.setCell ⟨bp, 3, none⟩ (.slice A' n c')) := Kp.set h5 (by simp) _ _
  have hkk : Kp [83, 281] w4 (w5.setCell ⟨bp, 3, none⟩ (.slice A' n c')) := (hk.mono (by simp)).trans (hks.mono (by simp))
  have hw := (putL_at l m' first).2
  have hln := withL_length l m' first
  rw [hw] at ho
  have hown : PlsOwn (w5.setCell ⟨bp, 3, none⟩ (.slice A' n c')) base (.slice A' (withL l m' first).length c') (withL l m' first) := by
    refine ⟨by rw [hln, ← hn]; exact own_kp ho hks (by decide), fun x hx => ?_⟩
    rcases withL_mem.1 hx with rfl | hx
    · exact hm.kp hkk (by decide) (by decide) (by decide)
    · exact (h.own.mods.each x hx).kp hkk (by decide) (by decide) (by decide)
  refine ⟨h5, ⟨?_, ⟨own_kp h.own.ex hkk (by decide), hown⟩, ⟨Reads.of_own hown.row, by rw [hln]; unfold big; omega, fun x hx => ?_⟩, h.low⟩, hkk⟩
  · rw [hln, ← hn]
    exact heap_setCell_same w5 bp 3 _ _ (.slice A' n c') h5
  · rcases withL_mem.1 hx with rfl | hx
    · exact (hm.kp hkk (by decide) (by decide) (by decide)).ok ⟨rfl, rfl, rfl, rfl, rfl, rfl, rfl⟩ hmo
    · exact ((h.own.mods.each x hx).kp hkk (by decide) (by decide) (by decide)).ok ⟨rfl, rfl, rfl, rfl, rfl, rfl, rfl⟩ (h.ok.each x hx)

set_option maxHeartbeats 8000000 in
set_option maxRecDepth 100000 in
theorem Pput_any (base bp : Nat) (k : Krn) (A : Option Addr) (c : Nat) (l : List Plc) (m : Mod) (first : Int) (w : World) (h : PlannerOk w base bp k A l c) (hm : m.ok w) (he : modErr m = 0) (h8 : l.length ≤ 8) :
    Calls Tryz.prog 250 #[.pointer (some ⟨bp, 0, none⟩), m.v, .int .i64 first] w fun e w' => (∃ u, e = .returned u) ∧ (∃ A' c' m', SameC m' m ∧ PlannerOk w' base bp k A' (withL l m' first) c') ∧ Kp [83, 281] w w' ∧ Below base w w' := by
  obtain ⟨w0, hw0⟩ : ∃ w0, w0 = w.alloc (.cells #[.string m.name, .int .i64 m.major, .int .i64 m.minor, .string m.text, .slice m.eA m.ex.length m.eC, .slice m.iA m.im.length m.iC, .slice m.pA m.pa.length m.pC] 70) := ⟨_, rfl⟩
  obtain ⟨x0, hx0⟩ : ∃ x0, x0 = w0.alloc (.cells #[.int .i64 first] 3) := ⟨_, rfl⟩
  have hz0 : w0.heap.size = w.heap.size + 1 := by subst hw0; simp
  have hb0 : Below w.heap.size w w0 := hw0 ▸ (Below.refl _ _).alloc (Nat.le_refl _) _
  have hbx : Below w0.heap.size w0 x0 := hx0 ▸ (Below.refl _ _).alloc (Nat.le_refl _) _
  have hM0 : w0.heap[w.heap.size]? = some (.cells #[.string m.name, .int .i64 m.major, .int .i64 m.minor, .string m.text, .slice m.eA m.ex.length m.eC, .slice m.iA m.im.length m.iC, .slice m.pA m.pa.length m.pC] 70 (0, 0)) := by rw [hw0]; exact heap_alloc_new w _
  have hMx := (hbx.block w.heap.size (by omega)).trans hM0
  have hBx : Boxed x0 (w.heap.size + 1) 3 (.int .i64 first) := by rw [← hz0]; exact hx0 ▸ Boxed.new _ _ _
  have hb1 := hb0.trans (hbx.mono hb0.size)
  have hzx : x0.heap.size = w.heap.size + 2 := by rw [hx0]; simp; omega
  have hP0 := h.below hb1
  obtain ⟨hbp, p0, p1, p2, p3, pf⟩ := pl_cells hP0
  have HQ := Lib.hid (IdxPlc_any A c l 270 #[.pointer (some ⟨w.heap.size + 1, 0, none⟩)] (fun p => decide (first < p.first)) x0 (enters_of Tryz.func270 (by kernel_rfl) rfl) hP0.ok.row hP0.ok.len
    (fun x _ W hb => put1_any x first (w.heap.size + 1) W (box_below hBx hb (by omega)).cell (by have := hb.size; omega)))
  have cO := Lib.hid (fun W (hb : Below w.heap.size w W) => Own_any m W (hm.below hb) (mod_small he))
  have HOK := Lib.hid hm
  have HB := Lib.hid hb1
  have HP := Lib.hid hP0
  have HMX := Lib.hid hMx
  have HBX := Lib.hid hBx
  have HSB := Lib.hid h.size
  have hw0' := hw0.symm
  have hx0' := hx0.symm
  obtain ⟨hput, _⟩ := putL_at l m first
  have HPUT := Lib.hid hput
  have HPA := Lib.hid (show putAt l first = if idxOf (fun p : Plc => decide (first < p.first)) l < 0 then l.length else (idxOf (fun p : Plc => decide (first < p.first)) l).toNat from rfl)
  obtain ⟨ix, hix⟩ : ∃ ix, ix = idxOf (fun p : Plc => decide (first < p.first)) l := ⟨_, rfl⟩
  rw [← hix] at HQ HPA
  obtain ⟨pa, hpa⟩ : ∃ pa, pa = putAt l first := ⟨_, rfl⟩
  have HPAE := Lib.hid hpa
  rw [← hpa] at HPA HPUT
  clear hw0 hx0 hb0 hbx hM0 hMx hBx hb1 hP0 hm he h p0 p1 p2 hput hix hpa
  have HH := Lib.hid h8
  clear h8
  go_enter Tryz.func250, Tryz.ntmps250
  go_wp2_with fail
  refine (HQ.out).mono ?_; rintro e w2 ⟨rfl, hb2⟩
  have HP2 := Lib.hid (HP.out.below hb2)
  have HB2 := Lib.hid (HB.out.trans (hb2.mono HB.out.size))
  have hM2 := (hb2.block w.heap.size (Array.getElem?_eq_some_iff.1 HMX.out).1).trans HMX.out
  have HBX2 := Lib.hid (box_below HBX.out hb2 (Array.getElem?_eq_some_iff.1 HBX.out).1)
  obtain ⟨m0, m1, m2, m3, m4, m5, m6⟩ := box_mod hM2
  obtain ⟨hbp2, _, _, _, q3, qf⟩ := pl_cells HP2.out
  have k0 := HBX2.out.cell
  clear hb2 hM2 HQ hbp p3 pf
  have HLOW := Lib.hid HP.out.low
  by_cases t : ix < 0
  · have hpn : pa = l.length := by have := HPA.out; rwa [if_pos t] at this
    have t' : decide (ix < 0) = true := decide_eq_true t
    go_wp2_with fail
    go_upto_region 4 with fail
    rw [← hpn]
    clear hpn t t' HPA
    go_region_law (first
      | (go_simp; go_at_call 125; (with_reducible refine (cO.out _ HB2.out.drew).mono ?_); rintro e w3 ⟨⟨m', rfl, hs3, ho3⟩, hb3⟩; obtain ⟨j3, j0, ja, HPA3, HMA3, HV3, HNE3, HSA3⟩ := put_b HP2.out HBX2.out hb3 m' ho3; have HS3 := Lib.hid hs3; have HB3 := Lib.hid (HB2.out.drew.trans (hb3.mono HB2.out.size)); clear hb3 ho3 hs3)
      | (go_simp; go_at_call 271; (with_reducible refine (Insert_any base A c l.length pa w3.heap.size l ⟨m', first⟩ _ (HPA3.out _).own.mods.row rfl HPUT.out (HSA3.out _) (Nat.le_trans HH.out (by decide)) HV3.out HNE3.out).mono ?_); rintro e w5 ⟨⟨A', c', rfl, ho5⟩, hk5, hb5⟩; obtain ⟨h5, hn5, hkk5⟩ := put_c (HPA3.out _) (HMA3.out _) ((HMA3.out _).ok HS3.out HOK.out) hk5 (HPAE.out ▸ ho5) rfl HH.out; have z3 := heap_cell h5 3; have zf := heap_free h5 3; simp only [List.getElem?_toArray, List.getElem?_cons_zero, List.getElem?_cons_succ] at z3; have HN5 := Lib.hid hn5; have HK5 := Lib.hid (Kp.trans (Kp.trans (Kp.of_below HB3.out) (Kp.alloc (Kp.refl _ _) _)) hkk5); have HB5 := Lib.hid (((HB3.out.mono HSB.out).trans ((Below.refl w3.heap.size w3).alloc (Nat.le_refl _) _ |>.mono (Nat.le_trans HSB.out HB3.out.size))).trans hb5); clear h5 hn5 hkk5 ho5 hk5 hb5))
    all_goals (
      go_wp2_with fail
      go_end0
      exact ⟨⟨_, rfl⟩, ⟨A', c', m', HS3.out, HN5.out⟩, HK5.out, HB5.out.setCell (p := ⟨bp, 3, none⟩) HLOW.out _⟩)
  · have hpn : ix = pa := by have := HPA.out; rw [if_neg t] at this; omega
    have t' : decide (ix < 0) = false := decide_eq_false t
    go_wp2_with fail
    go_upto_region 4 with fail
    try rw [hpn]
    clear hpn t t' HPA
    go_region_law (first
      | (go_simp; go_at_call 125; (with_reducible refine (cO.out _ HB2.out.drew).mono ?_); rintro e w3 ⟨⟨m', rfl, hs3, ho3⟩, hb3⟩; obtain ⟨j3, j0, ja, HPA3, HMA3, HV3, HNE3, HSA3⟩ := put_b HP2.out HBX2.out hb3 m' ho3; have HS3 := Lib.hid hs3; have HB3 := Lib.hid (HB2.out.drew.trans (hb3.mono HB2.out.size)); clear hb3 ho3 hs3)
      | (go_simp; go_at_call 271; (with_reducible refine (Insert_any base A c l.length pa w3.heap.size l ⟨m', first⟩ _ (HPA3.out _).own.mods.row rfl HPUT.out (HSA3.out _) (Nat.le_trans HH.out (by decide)) HV3.out HNE3.out).mono ?_); rintro e w5 ⟨⟨A', c', rfl, ho5⟩, hk5, hb5⟩; obtain ⟨h5, hn5, hkk5⟩ := put_c (HPA3.out _) (HMA3.out _) ((HMA3.out _).ok HS3.out HOK.out) hk5 (HPAE.out ▸ ho5) rfl HH.out; have z3 := heap_cell h5 3; have zf := heap_free h5 3; simp only [List.getElem?_toArray, List.getElem?_cons_zero, List.getElem?_cons_succ] at z3; have HN5 := Lib.hid hn5; have HK5 := Lib.hid (Kp.trans (Kp.trans (Kp.of_below HB3.out) (Kp.alloc (Kp.refl _ _) _)) hkk5); have HB5 := Lib.hid (((HB3.out.mono HSB.out).trans ((Below.refl w3.heap.size w3).alloc (Nat.le_refl _) _ |>.mono (Nat.le_trans HSB.out HB3.out.size))).trans hb5); clear h5 hn5 hkk5 ho5 hk5 hb5))
    all_goals (
      go_wp2_with fail
      go_end0
      exact ⟨⟨_, rfl⟩, ⟨A', c', m', HS3.out, HN5.out⟩, HK5.out, HB5.out.setCell (p := ⟨bp, 3, none⟩) HLOW.out _⟩)

end Go.Proofs.YtjiedaialianmaaGreat
end

section

namespace Go.Proofs.YtjiedaialianmaaGreat
open Go.RowKit Go.Lib

theorem take_c {w4 w5 : World} {base bp g : Nat} {k : Krn} {A A' : Option Addr} {l : List Plc} {c c' n : Nat} {nm : ByteArray} {j : Nat} (h : PlannerOk w4 base bp k A l c) (hj : idxOf (named nm) l = j) (hg : ∃ cs, w4.heap[g]? = some (.cells cs 83 (0, 0))) (hbg : base ≤ g) (hk : Only g w4 w5) (ho : PlcOwn w5 base (.slice A' n c') (l.eraseIdx j)) (hn : n + 1 = l.length) :
    w5.heap[bp]? = some (.cells #[.int .i64 k.major, .int .i64 k.minor, .slice k.eA k.ex.length k.eC, .slice A l.length c] 281 (0, 0)) ∧
    PlannerOk (w5.setCell ⟨bp, 3, none⟩ (.slice A' n c')) base bp k A' (remL l nm) c' ∧ Kp [83, 281] w4 (w5.setCell ⟨bp, 3, none⟩ (.slice A' n c')) ∧ Below base w4 (w5.setCell ⟨bp, 3, none⟩ (.slice A' n c')) := by
  obtain ⟨cs, hgc⟩ := hg
  have hk1 : Kp [83] w4 w5 := hk.kp hgc (by simp)
  have h5 := hk1 _ _ _ _ h.heap (by decide)
  have hks : Kp [281] w5 (w5.setCell ⟨bp, 3, none⟩ (.slice A' n c')) := Kp.set h5 (by simp) _ _
  have hkk : Kp [83, 281] w4 (w5.setCell ⟨bp, 3, none⟩ (.slice A' n c')) := (hk1.mono (by simp)).trans (hks.mono (by simp))
  obtain ⟨hjl, _⟩ := find_idx hj
  have hrl : remL l nm = l.eraseIdx j := by unfold remL; rw [hj, Int.toNat_natCast]
  have hln : (l.eraseIdx j).length = n := by rw [List.length_eraseIdx_of_lt hjl]; omega
  have hlb := h.ok.len
  rw [hrl]
  have hown : PlsOwn (w5.setCell ⟨bp, 3, none⟩ (.slice A' n c')) base (.slice A' (l.eraseIdx j).length c') (l.eraseIdx j) :=
    ⟨by rw [hln]; exact own_kp ho hks (by decide), fun x hx => (h.own.mods.each x (List.mem_of_mem_eraseIdx hx)).kp hkk (by decide) (by decide) (by decide)⟩
  refine ⟨h5, ⟨?_, ⟨own_kp h.own.ex hkk (by decide), hown⟩, ⟨Reads.of_own hown.row, by rw [hln]; omega, fun x hx => ?_⟩, h.low⟩, hkk, ?_⟩
  · rw [hln]
    exact heap_setCell_same w5 bp 3 _ _ (.slice A' n c') h5
  · exact ((h.own.mods.each x (List.mem_of_mem_eraseIdx hx)).kp hkk (by decide) (by decide) (by decide)).ok ⟨rfl, rfl, rfl, rfl, rfl, rfl, rfl⟩ (h.ok.each x (List.mem_of_mem_eraseIdx hx))
  · have hgl := (Array.getElem?_eq_some_iff.1 hgc).1
    exact ((hk.below (Nat.le_of_lt hgl)).mono hbg).setCell (p := ⟨bp, 3, none⟩) h.low _

set_option maxHeartbeats 4000000 in
set_option maxRecDepth 100000 in
theorem Ptake_any (base bp : Nat) (k : Krn) (A : Option Addr) (c : Nat) (l : List Plc) (nm : ByteArray) (j : Nat) (w : World) (h : PlannerOk w base bp k A l c) (hj : idxOf (named nm) l = j) (h8 : l.length ≤ 8) :
    Calls Tryz.prog 248 #[.pointer (some ⟨bp, 0, none⟩), .string nm] w fun e w' => e = .returned (.int .i64 (firstAt l nm)) ∧ (∃ A' c', PlannerOk w' base bp k A' (remL l nm) c') ∧ Kp [83, 281] w w' ∧ Below base w w' := by
  obtain ⟨hjl, hfa⟩ := firstAt_idx hj
  obtain ⟨n, hn⟩ : ∃ n, n + 1 = l.length := ⟨l.length - 1, by omega⟩
  obtain ⟨g, hA, hgb, hgl, hgc, _⟩ := PlcOwn.at_ h.own.mods.row hjl
  subst hA
  obtain ⟨cur, hbg, hg, h1, h2, h3, h4⟩ := own_cells h.own.mods.row rfl
  obtain ⟨_, _, _, _, p3, _⟩ := pl_cells h
  have HP := Lib.hid h
  have HJ := Lib.hid hj
  have HN := Lib.hid hn
  have c1 := Lib.hid (Place_any (some ⟨g, 0, none⟩) c l nm w h.ok.row h.ok.len)
  rw [hj] at c1
  have cD := Lib.hid (fun W (hb : Below w.heap.size w W) => Delete_row base g c n j l W cur ((hb.block g hgl).trans hg) h3 h4 hbg hn (by omega) (by omega) (by omega) h2)
  have HAT := Lib.hid (fun W (hb : Below w.heap.size w W) => plc_at h.ok.row hb j hjl)
  have HGC := Lib.hid hgc
  have HBG := Lib.hid hgb
  have hw1 : IntKind.i64.wrap ((j : Int) + 1) = (j : Int) + 1 := by rw [IntKind.wrap_i64]; omega
  have hjn : (j : Int) < (n : Int) + 1 := by omega
  have hAD : (⟨g, 0, none⟩ : Addr).add (j * 8) = ⟨g, j * 8, none⟩ := by rw [Addr.add_lit, Nat.zero_add]
  have HFA := Lib.hid hfa
  obtain ⟨fa, hfa'⟩ : ∃ fa, fa = firstAt l nm := ⟨_, rfl⟩
  rw [← hfa'] at HFA ⊢
  have HGL := Lib.hid hgl
  rw [← hn] at p3 c1
  clear h hj hgc hgb hbg hg h1 h2 h3 h4 hfa hfa' h8 hgl hn
  go_enter Tryz.func248, Tryz.ntmps248
  go_wp2_with fail
  refine (c1.out).mono ?_; rintro e w2 ⟨rfl, hb2⟩
  have HP2 := Lib.hid (HP.out.below hb2)
  obtain ⟨_, _, _, _, q3, _⟩ := pl_cells HP2.out
  rw [← HN.out] at q3
  obtain ⟨ad, ea, _, _, _, _, _, _, _, _, m7⟩ := HAT.out w2 hb2
  obtain rfl := Option.some.inj ea
  rw [hAD] at m7
  rw [← HFA.out] at m7
  have HB2 := Lib.hid hb2
  clear p3 c1
  go_wp2_with fail
  refine (cD.out _ HB2.out).mono ?_; rintro e w4 ⟨rfl, ho4, hon4⟩
  obtain ⟨t1, t2, t3, t4⟩ := take_c HP2.out HJ.out (by obtain ⟨cs, hcs⟩ := HGC.out; exact ⟨cs, (HB2.out.block g HGL.out).trans hcs⟩) HBG.out hon4 ho4 HN.out
  have z3 := heap_cell t1 3
  have zf := heap_free t1 3
  simp only [List.getElem?_toArray, List.getElem?_cons_zero, List.getElem?_cons_succ] at z3
  have T2 := Lib.hid t2
  have T3 := Lib.hid t3
  have T4 := Lib.hid t4
  clear t1 t2 t3 t4 ho4 hon4 q3 m7
  go_wp2_with fail
  go_ret
  exact ⟨rfl, ⟨_, _, T2.out⟩, (Kp.of_below HB2.out).trans T3.out, (HB2.out.mono HP.out.size).trans T4.out⟩

/-- what is told of a planner behind a command: its errno; its registry, where there was none -/
def PDone (w : World) (base bp : Nat) (k : Krn) (E : Int) (L : List Plc) (e : Ending) (w' : World) : Prop :=
  e = .returned (.int .i64 E) ∧ (E = 0 → ∃ A' c' L', bares L' = bares L ∧ PlannerOk w' base bp k A' L' c') ∧ Kp [83, 281] w w' ∧ Below base w w'

set_option maxHeartbeats 4000000 in
set_option maxRecDepth 100000 in
theorem Pfit_any (base bp : Nat) (k : Krn) (A : Option Addr) (c : Nat) (l : List Plc) (m : Mod) (w : World) (h : PlannerOk w base bp k A l c) (hm : m.ok w) (he : modErr m = 0) (hr : regErr l = 0) :
    Calls Tryz.prog 246 #[.pointer (some ⟨bp, 0, none⟩), m.v] w (PDone w base bp k (if fitIn (manyOf m) (runsOf l) < 0 then 8 else 0) (withL l m (fitIn (manyOf m) (runsOf l)))) := by
  obtain ⟨w0, hw0⟩ : ∃ w0, w0 = w.alloc (.cells #[.string m.name, .int .i64 m.major, .int .i64 m.minor, .string m.text, .slice m.eA m.ex.length m.eC, .slice m.iA m.im.length m.iC, .slice m.pA m.pa.length m.pC] 70) := ⟨_, rfl⟩
  have hb0 : Below w.heap.size w w0 := hw0 ▸ (Below.refl _ _).alloc (Nat.le_refl _) _
  have hM0 : w0.heap[w.heap.size]? = some (.cells #[.string m.name, .int .i64 m.major, .int .i64 m.minor, .string m.text, .slice m.eA m.ex.length m.eC, .slice m.iA m.im.length m.iC, .slice m.pA m.pa.length m.pC] 70 (0, 0)) := by rw [hw0]; exact heap_alloc_new w _
  have hP0 := h.below hb0
  obtain ⟨hbp, _, _, _, p3, _⟩ := pl_cells hP0
  obtain ⟨m0, m1, m2, m3, m4, m5, m6⟩ := box_mod hM0
  have hbl : w.heap.size < w0.heap.size := (Array.getElem?_eq_some_iff.1 hM0).1
  have HP0 := Lib.hid hP0
  have HM0 := Lib.hid hM0
  have HB0 := Lib.hid hb0
  have HSB := Lib.hid h.size
  have HE := Lib.hid he
  have cM := Lib.hid (fun W => Many_any m W hm.text)
  have HMO := Lib.hid (fun W (hb : Below w.heap.size w W) => hm.below hb)
  have h8 := (reg_row hr).1
  have H8 := Lib.hid h8
  have cF := Lib.hid (fun W (hb : Below w0.heap.size w0 W) => Fit_any A c l (manyOf m) W (hP0.ok.below hb) hr)
  obtain ⟨q, hq⟩ : ∃ q, q = fitIn (manyOf m) (runsOf l) := ⟨_, rfl⟩
  rw [← hq] at cF ⊢
  obtain ⟨mm, hmm⟩ : ∃ mm, mm = manyOf m := ⟨_, rfl⟩
  rw [← hmm] at cM cF
  obtain ⟨E, hE⟩ : ∃ E : Int, E = if q < 0 then 8 else 0 := ⟨_, rfl⟩
  rw [← hE]
  have HEE := Lib.hid hE
  obtain ⟨L, hL⟩ : ∃ L, L = withL l m q := ⟨_, rfl⟩
  rw [← hL]
  have HLL := Lib.hid hL
  have hw0' := hw0.symm
  have HBL := Lib.hid hbl
  clear hw0 hb0 hM0 hP0 h hm he hr h8 hq hmm hE hL
  have HC0 := Lib.hid (show Below w0.heap.size w0 w0 ∧ w0.cell? ⟨w.heap.size, 0, none⟩ = some (.string m.name) ∧ w0.cell? ⟨w.heap.size, 1, none⟩ = some (.int .i64 m.major) ∧ w0.cell? ⟨w.heap.size, 2, none⟩ = some (.int .i64 m.minor) ∧ w0.cell? ⟨w.heap.size, 3, none⟩ = some (.string m.text) ∧ w0.cell? ⟨w.heap.size, 4, none⟩ = some (.slice m.eA m.ex.length m.eC) ∧ w0.cell? ⟨w.heap.size, 5, none⟩ = some (.slice m.iA m.im.length m.iC) ∧ w0.cell? ⟨w.heap.size, 6, none⟩ = some (.slice m.pA m.pa.length m.pC) ∧ w0.cell? ⟨bp, 3, none⟩ = some (.slice A l.length c) from ⟨Below.refl _ _, by assumption, by assumption, by assumption, by assumption, by assumption, by assumption, by assumption, by assumption⟩)
  have HCD := Lib.hid (show ∀ W' : World, (Below w0.heap.size w0 W' ∧ W'.cell? ⟨w.heap.size, 0, none⟩ = some (.string m.name) ∧ W'.cell? ⟨w.heap.size, 1, none⟩ = some (.int .i64 m.major) ∧ W'.cell? ⟨w.heap.size, 2, none⟩ = some (.int .i64 m.minor) ∧ W'.cell? ⟨w.heap.size, 3, none⟩ = some (.string m.text) ∧ W'.cell? ⟨w.heap.size, 4, none⟩ = some (.slice m.eA m.ex.length m.eC) ∧ W'.cell? ⟨w.heap.size, 5, none⟩ = some (.slice m.iA m.im.length m.iC) ∧ W'.cell? ⟨w.heap.size, 6, none⟩ = some (.slice m.pA m.pa.length m.pC) ∧ W'.cell? ⟨bp, 3, none⟩ = some (.slice A l.length c)) → (Below w0.heap.size w0 W'.drew ∧ W'.drew.cell? ⟨w.heap.size, 0, none⟩ = some (.string m.name) ∧ W'.drew.cell? ⟨w.heap.size, 1, none⟩ = some (.int .i64 m.major) ∧ W'.drew.cell? ⟨w.heap.size, 2, none⟩ = some (.int .i64 m.minor) ∧ W'.drew.cell? ⟨w.heap.size, 3, none⟩ = some (.string m.text) ∧ W'.drew.cell? ⟨w.heap.size, 4, none⟩ = some (.slice m.eA m.ex.length m.eC) ∧ W'.drew.cell? ⟨w.heap.size, 5, none⟩ = some (.slice m.iA m.im.length m.iC) ∧ W'.drew.cell? ⟨w.heap.size, 6, none⟩ = some (.slice m.pA m.pa.length m.pC) ∧ W'.drew.cell? ⟨bp, 3, none⟩ = some (.slice A l.length c)) from fun W' ⟨b, a0, a1, a2, a3, a4, a5, a6, a7⟩ => ⟨b.drew, a0, a1, a2, a3, a4, a5, a6, a7⟩)
  have HCS := Lib.hid (show ∀ W' W2 : World, (Below w0.heap.size w0 W' ∧ W'.cell? ⟨w.heap.size, 0, none⟩ = some (.string m.name) ∧ W'.cell? ⟨w.heap.size, 1, none⟩ = some (.int .i64 m.major) ∧ W'.cell? ⟨w.heap.size, 2, none⟩ = some (.int .i64 m.minor) ∧ W'.cell? ⟨w.heap.size, 3, none⟩ = some (.string m.text) ∧ W'.cell? ⟨w.heap.size, 4, none⟩ = some (.slice m.eA m.ex.length m.eC) ∧ W'.cell? ⟨w.heap.size, 5, none⟩ = some (.slice m.iA m.im.length m.iC) ∧ W'.cell? ⟨w.heap.size, 6, none⟩ = some (.slice m.pA m.pa.length m.pC) ∧ W'.cell? ⟨bp, 3, none⟩ = some (.slice A l.length c)) → Below W'.heap.size W' W2 → (Below w0.heap.size w0 W2 ∧ W2.cell? ⟨w.heap.size, 0, none⟩ = some (.string m.name) ∧ W2.cell? ⟨w.heap.size, 1, none⟩ = some (.int .i64 m.major) ∧ W2.cell? ⟨w.heap.size, 2, none⟩ = some (.int .i64 m.minor) ∧ W2.cell? ⟨w.heap.size, 3, none⟩ = some (.string m.text) ∧ W2.cell? ⟨w.heap.size, 4, none⟩ = some (.slice m.eA m.ex.length m.eC) ∧ W2.cell? ⟨w.heap.size, 5, none⟩ = some (.slice m.iA m.im.length m.iC) ∧ W2.cell? ⟨w.heap.size, 6, none⟩ = some (.slice m.pA m.pa.length m.pC) ∧ W2.cell? ⟨bp, 3, none⟩ = some (.slice A l.length c)) from fun W' W2 ⟨b, a0, a1, a2, a3, a4, a5, a6, a7⟩ hb => have s := b.size; ⟨b.trans (hb.mono s), (hb.cell (by first | omega | (simp; omega) | (simp only [block_of_add]; omega))).trans a0, (hb.cell (by first | omega | (simp; omega) | (simp only [block_of_add]; omega))).trans a1, (hb.cell (by first | omega | (simp; omega) | (simp only [block_of_add]; omega))).trans a2, (hb.cell (by first | omega | (simp; omega) | (simp only [block_of_add]; omega))).trans a3, (hb.cell (by first | omega | (simp; omega) | (simp only [block_of_add]; omega))).trans a4, (hb.cell (by first | omega | (simp; omega) | (simp only [block_of_add]; omega))).trans a5, (hb.cell (by first | omega | (simp; omega) | (simp only [block_of_add]; omega))).trans a6, (hb.cell (by first | omega | (simp; omega) | (simp only [block_of_add]; omega))).trans a7⟩)
  have HCA := Lib.hid (show ∀ (W' : World) (o : Obj), (Below w0.heap.size w0 W' ∧ W'.cell? ⟨w.heap.size, 0, none⟩ = some (.string m.name) ∧ W'.cell? ⟨w.heap.size, 1, none⟩ = some (.int .i64 m.major) ∧ W'.cell? ⟨w.heap.size, 2, none⟩ = some (.int .i64 m.minor) ∧ W'.cell? ⟨w.heap.size, 3, none⟩ = some (.string m.text) ∧ W'.cell? ⟨w.heap.size, 4, none⟩ = some (.slice m.eA m.ex.length m.eC) ∧ W'.cell? ⟨w.heap.size, 5, none⟩ = some (.slice m.iA m.im.length m.iC) ∧ W'.cell? ⟨w.heap.size, 6, none⟩ = some (.slice m.pA m.pa.length m.pC) ∧ W'.cell? ⟨bp, 3, none⟩ = some (.slice A l.length c)) → (Below w0.heap.size w0 (W'.alloc o) ∧ (W'.alloc o).cell? ⟨w.heap.size, 0, none⟩ = some (.string m.name) ∧ (W'.alloc o).cell? ⟨w.heap.size, 1, none⟩ = some (.int .i64 m.major) ∧ (W'.alloc o).cell? ⟨w.heap.size, 2, none⟩ = some (.int .i64 m.minor) ∧ (W'.alloc o).cell? ⟨w.heap.size, 3, none⟩ = some (.string m.text) ∧ (W'.alloc o).cell? ⟨w.heap.size, 4, none⟩ = some (.slice m.eA m.ex.length m.eC) ∧ (W'.alloc o).cell? ⟨w.heap.size, 5, none⟩ = some (.slice m.iA m.im.length m.iC) ∧ (W'.alloc o).cell? ⟨w.heap.size, 6, none⟩ = some (.slice m.pA m.pa.length m.pC) ∧ (W'.alloc o).cell? ⟨bp, 3, none⟩ = some (.slice A l.length c)) from fun W' o hc => HCS.out W' (W'.alloc o) hc ((Below.refl _ _).alloc (Nat.le_refl _) o))
  have HCX := Lib.hid (show ∀ (W' : World) (bX oX : Nat) (vX : Value), w0.heap.size ≤ bX → (Below w0.heap.size w0 W' ∧ W'.cell? ⟨w.heap.size, 0, none⟩ = some (.string m.name) ∧ W'.cell? ⟨w.heap.size, 1, none⟩ = some (.int .i64 m.major) ∧ W'.cell? ⟨w.heap.size, 2, none⟩ = some (.int .i64 m.minor) ∧ W'.cell? ⟨w.heap.size, 3, none⟩ = some (.string m.text) ∧ W'.cell? ⟨w.heap.size, 4, none⟩ = some (.slice m.eA m.ex.length m.eC) ∧ W'.cell? ⟨w.heap.size, 5, none⟩ = some (.slice m.iA m.im.length m.iC) ∧ W'.cell? ⟨w.heap.size, 6, none⟩ = some (.slice m.pA m.pa.length m.pC) ∧ W'.cell? ⟨bp, 3, none⟩ = some (.slice A l.length c)) → (Below w0.heap.size w0 (W'.setCell ⟨bX, oX, none⟩ vX) ∧ (W'.setCell ⟨bX, oX, none⟩ vX).cell? ⟨w.heap.size, 0, none⟩ = some (.string m.name) ∧ (W'.setCell ⟨bX, oX, none⟩ vX).cell? ⟨w.heap.size, 1, none⟩ = some (.int .i64 m.major) ∧ (W'.setCell ⟨bX, oX, none⟩ vX).cell? ⟨w.heap.size, 2, none⟩ = some (.int .i64 m.minor) ∧ (W'.setCell ⟨bX, oX, none⟩ vX).cell? ⟨w.heap.size, 3, none⟩ = some (.string m.text) ∧ (W'.setCell ⟨bX, oX, none⟩ vX).cell? ⟨w.heap.size, 4, none⟩ = some (.slice m.eA m.ex.length m.eC) ∧ (W'.setCell ⟨bX, oX, none⟩ vX).cell? ⟨w.heap.size, 5, none⟩ = some (.slice m.iA m.im.length m.iC) ∧ (W'.setCell ⟨bX, oX, none⟩ vX).cell? ⟨w.heap.size, 6, none⟩ = some (.slice m.pA m.pa.length m.pC) ∧ (W'.setCell ⟨bX, oX, none⟩ vX).cell? ⟨bp, 3, none⟩ = some (.slice A l.length c)) from fun W' bX oX vX hbX ⟨b, a0, a1, a2, a3, a4, a5, a6, a7⟩ => ⟨b.setCell (p := ⟨bX, oX, none⟩) hbX vX, (((Below.refl _ _).setCell (p := ⟨bX, oX, none⟩) hbX vX).cell (by first | omega | (simp; omega) | (simp only [block_of_add]; omega))).trans a0, (((Below.refl _ _).setCell (p := ⟨bX, oX, none⟩) hbX vX).cell (by first | omega | (simp; omega) | (simp only [block_of_add]; omega))).trans a1, (((Below.refl _ _).setCell (p := ⟨bX, oX, none⟩) hbX vX).cell (by first | omega | (simp; omega) | (simp only [block_of_add]; omega))).trans a2, (((Below.refl _ _).setCell (p := ⟨bX, oX, none⟩) hbX vX).cell (by first | omega | (simp; omega) | (simp only [block_of_add]; omega))).trans a3, (((Below.refl _ _).setCell (p := ⟨bX, oX, none⟩) hbX vX).cell (by first | omega | (simp; omega) | (simp only [block_of_add]; omega))).trans a4, (((Below.refl _ _).setCell (p := ⟨bX, oX, none⟩) hbX vX).cell (by first | omega | (simp; omega) | (simp only [block_of_add]; omega))).trans a5, (((Below.refl _ _).setCell (p := ⟨bX, oX, none⟩) hbX vX).cell (by first | omega | (simp; omega) | (simp only [block_of_add]; omega))).trans a6, (((Below.refl _ _).setCell (p := ⟨bX, oX, none⟩) hbX vX).cell (by first | omega | (simp; omega) | (simp only [block_of_add]; omega))).trans a7⟩)
  have HCL := Lib.hid (show ∀ W' : World, (Below w0.heap.size w0 W' ∧ W'.cell? ⟨w.heap.size, 0, none⟩ = some (.string m.name) ∧ W'.cell? ⟨w.heap.size, 1, none⟩ = some (.int .i64 m.major) ∧ W'.cell? ⟨w.heap.size, 2, none⟩ = some (.int .i64 m.minor) ∧ W'.cell? ⟨w.heap.size, 3, none⟩ = some (.string m.text) ∧ W'.cell? ⟨w.heap.size, 4, none⟩ = some (.slice m.eA m.ex.length m.eC) ∧ W'.cell? ⟨w.heap.size, 5, none⟩ = some (.slice m.iA m.im.length m.iC) ∧ W'.cell? ⟨w.heap.size, 6, none⟩ = some (.slice m.pA m.pa.length m.pC) ∧ W'.cell? ⟨bp, 3, none⟩ = some (.slice A l.length c)) → Below w0.heap.size w0 W' from fun W' hc => hc.1)
  go_enter Tryz.func246, Tryz.ntmps246
  go_wp2_with fail
  go_region_held3 (fun W' => Below w0.heap.size w0 W' ∧ W'.cell? ⟨w.heap.size, 0, none⟩ = some (.string m.name) ∧ W'.cell? ⟨w.heap.size, 1, none⟩ = some (.int .i64 m.major) ∧ W'.cell? ⟨w.heap.size, 2, none⟩ = some (.int .i64 m.minor) ∧ W'.cell? ⟨w.heap.size, 3, none⟩ = some (.string m.text) ∧ W'.cell? ⟨w.heap.size, 4, none⟩ = some (.slice m.eA m.ex.length m.eC) ∧ W'.cell? ⟨w.heap.size, 5, none⟩ = some (.slice m.iA m.im.length m.iC) ∧ W'.cell? ⟨w.heap.size, 6, none⟩ = some (.slice m.pA m.pa.length m.pC) ∧ W'.cell? ⟨bp, 3, none⟩ = some (.slice A l.length c)) (first | exact HC0.out | exact HCD.out _ HC0.out | exact HCS.out _ _ (by assumption) (by assumption) | exact HCS.out _ _ HC0.out (by assumption) | exact HCS.out _ _ (HCD.out _ HC0.out) (by assumption) | exact HCS.out _ _ (HCD.out _ (by assumption)) (by assumption) | exact HCD.out _ (by assumption) | exact HCA.out _ _ (by assumption) | exact HCA.out _ _ HC0.out | exact HCA.out _ _ (HCD.out _ HC0.out) | exact HCD.out _ (HCA.out _ _ (by assumption)) | exact HCA.out _ _ (HCS.out _ _ HC0.out (by assumption)) | exact HCA.out _ _ (HCS.out _ _ (HCD.out _ HC0.out) (by assumption)) | exact HCX.out _ _ _ _ (Nat.le_refl _) (by assumption) | exact HCX.out _ _ _ _ (Nat.le_refl _) (HCS.out _ _ (HCA.out _ _ HC0.out) (by assumption)) | exact HCX.out _ _ _ _ (Nat.le_refl _) (HCS.out _ _ (HCD.out _ (HCA.out _ _ HC0.out)) (by assumption)) | assumption) (first | (go_at_call 164; (with_reducible refine (cM.out _).mono ?_); rintro e w3 ⟨rfl, hb3⟩) | (go_at_call 190; (with_reducible refine (cF.out _ (HCL.out _ (by first | assumption | exact HCS.out _ _ (by assumption) (by assumption) | exact HCS.out _ _ HC0.out (by assumption) | exact HCS.out _ _ (HCD.out _ HC0.out) (by assumption)))).mono ?_); rintro e w4 ⟨rfl, hb4⟩))
  have HB4 := Lib.hid (HCL.out w4 (by assumption))
  have HP4 := Lib.hid (HP0.out.below HB4.out)
  have HBW := Lib.hid (HB0.out.trans (HB4.out.mono HB0.out.size))
  obtain ⟨n0, n1, n2, n3, n4, n5, n6⟩ := box_mod ((HB4.out.block w.heap.size HBL.out).trans HM0.out)
  have cP := Lib.hid (Pput_any base bp k A c l m q w4 HP4.out (HMO.out w4 HBW.out) HE.out H8.out)
  clear hb4 HC0 HCD HCS HCA HCX HCL
  by_cases t : q < 0
  · have hE8 : E = 8 := by have := HEE.out; rwa [if_pos t] at this
    subst hE8
    have t' : decide (q < 0) = true := decide_eq_true t
    clear t
    go_wp2_with fail
    go_ret
    exact ⟨rfl, fun e => absurd e (by decide), Kp.of_below HBW.out, HBW.out.mono HSB.out⟩
  · have hE0 : E = 0 := by have := HEE.out; rwa [if_neg t] at this
    subst hE0
    have t' : decide (q < 0) = false := decide_eq_false t
    clear t
    go_wp2_with fail
    refine (cP.out).mono ?_; rintro e w5 ⟨⟨u, rfl⟩, ⟨A', c', m', hs5, hp5⟩, hk5, hb5⟩
    have HS5 := Lib.hid hs5
    have HP5 := Lib.hid hp5
    have HK5 := Lib.hid hk5
    have HB5 := Lib.hid hb5
    clear hs5 hp5 hk5 hb5
    go_wp2_with fail
    go_ret
    refine ⟨rfl, fun _ => ⟨A', c', withL l m' q, ?_, HP5.out⟩, (Kp.of_below HBW.out).trans HK5.out, (HBW.out.mono HSB.out).trans HB5.out⟩
    rw [HLL.out, withL_bare, withL_bare, sameC_bare HS5.out]

theorem PDone.after {w w4 : World} {base bp : Nat} {k : Krn} {E : Int} {L : List Plc} (hk : Kp [83, 281] w w4) (hb : Below base w w4) : ∀ e w', PDone w4 base bp k E L e w' → PDone w base bp k E L e w' :=
  fun _ _ ⟨h1, h2, h3, h4⟩ => ⟨h1, h2, hk.trans h3, hb.trans h4⟩

end Go.Proofs.YtjiedaialianmaaGreat
end

section

namespace Go.Proofs.YtjiedaialianmaaGreat
open Go.RowKit Go.Lib

theorem inst_cases (l : List Plc) (m : Mod) : (modErr m ≠ 0 ∧ instPre l m = modErr m) ∨ (modErr m = 0 ∧ 0 ≤ idxOf (named m.name) l ∧ instPre l m = 6) ∨ (modErr m = 0 ∧ ¬ 0 ≤ idxOf (named m.name) l ∧ Hid (l.length = 8) ∧ instPre l m = 2) ∨
    (modErr m = 0 ∧ ¬ 0 ≤ idxOf (named m.name) l ∧ Hid (l.length ≠ 8) ∧ instPre l m = if fitIn (manyOf m) (runsOf l) < 0 then 8 else 0) := by
  unfold instPre
  by_cases h1 : modErr m = 0
  · rw [if_neg (by omega)]
    by_cases h2 : 0 ≤ idxOf (named m.name) l
    · rw [if_pos h2]; exact .inr (.inl ⟨h1, h2, rfl⟩)
    · rw [if_neg h2]
      by_cases h3 : l.length = 8
      · rw [if_pos h3]; exact .inr (.inr (.inl ⟨h1, h2, Lib.hid h3, rfl⟩))
      · rw [if_neg h3]; exact .inr (.inr (.inr ⟨h1, h2, Lib.hid h3, rfl⟩))
  · rw [if_pos h1]; exact .inl ⟨h1, rfl⟩

set_option maxHeartbeats 4000000 in
set_option maxRecDepth 100000 in
theorem Pinstall_any (base bp : Nat) (k : Krn) (A : Option Addr) (c : Nat) (l : List Plc) (m : Mod) (w : World) (h : PlannerOk w base bp k A l c) (hm : m.ok w) (hr : regErr l = 0) :
    Calls Tryz.prog 214 #[.pointer (some ⟨bp, 0, none⟩), m.v] w (PDone w base bp k (instPre l m) (instL l m)) := by
  obtain ⟨w0, hw0⟩ : ∃ w0, w0 = w.alloc (.cells #[.string m.name, .int .i64 m.major, .int .i64 m.minor, .string m.text, .slice m.eA m.ex.length m.eC, .slice m.iA m.im.length m.iC, .slice m.pA m.pa.length m.pC] 70) := ⟨_, rfl⟩
  have hb0 : Below w.heap.size w w0 := hw0 ▸ (Below.refl _ _).alloc (Nat.le_refl _) _
  have hM0 : w0.heap[w.heap.size]? = some (.cells #[.string m.name, .int .i64 m.major, .int .i64 m.minor, .string m.text, .slice m.eA m.ex.length m.eC, .slice m.iA m.im.length m.iC, .slice m.pA m.pa.length m.pC] 70 (0, 0)) := by rw [hw0]; exact heap_alloc_new w _
  have HP0 := Lib.hid (h.below hb0)
  obtain ⟨m0, m1, m2, m3, m4, m5, m6⟩ := box_mod hM0
  have HM0 := Lib.hid hM0
  have HB0 := Lib.hid hb0
  have HSB := Lib.hid h.size
  have HMO := Lib.hid (fun W (hb : Below w.heap.size w W) => hm.below hb)
  have H8 := Lib.hid (reg_row hr).1
  have HR := Lib.hid hr
  have c1 := Lib.hid (Check_any m w0 (hm.below hb0))
  have cases := inst_cases l m
  have cP := Lib.hid (fun W (hb : Below w0.heap.size w0 W) => Place_any A c l m.name W (HP0.out.below hb).ok.row (HP0.out.below hb).ok.len)
  have cF := Lib.hid (fun W (hb : Below w0.heap.size w0 W) (he : modErr m = 0) => Pfit_any base bp k A c l m W (HP0.out.below hb) (hm.below (hb0.trans (hb.mono hb0.size))) he hr)
  have hfl : instL l m = withL l m (fitIn (manyOf m) (runsOf l)) := rfl
  rw [← hfl] at cF
  obtain ⟨L, hL⟩ : ∃ L, L = instL l m := ⟨_, rfl⟩
  rw [← hL] at cF ⊢
  obtain ⟨E, hE⟩ : ∃ E, E = instPre l m := ⟨_, rfl⟩
  rw [← hE] at cases ⊢
  obtain ⟨M, hM⟩ : ∃ M, M = modErr m := ⟨_, rfl⟩
  rw [← hM] at c1 cases cF
  obtain ⟨ix, hix⟩ : ∃ ix, ix = idxOf (named m.name) l := ⟨_, rfl⟩
  rw [← hix] at cP cases
  obtain ⟨fe, hfe⟩ : ∃ fe : Int, fe = if fitIn (manyOf m) (runsOf l) < 0 then 8 else 0 := ⟨_, rfl⟩
  rw [← hfe] at cF cases
  have hw0' := hw0.symm
  clear hw0 hb0 hM0 h hm hr hfl hL hE hM hix hfe
  rcases cases with ⟨t1, rfl⟩ | ⟨rfl, t2, rfl⟩ | ⟨rfl, t2, t3, rfl⟩ | ⟨rfl, t2, t3, rfl⟩
  · have t1' : (E != 0) = true := by simp [t1]
    have T1 := Lib.hid t1
    clear t1
    go_enter Tryz.func214, Tryz.ntmps214
    go_wp2_with fail
    refine (c1.out).mono ?_; rintro e w1 ⟨rfl, hb1⟩
    have HBW := Lib.hid (HB0.out.trans (hb1.mono HB0.out.size))
    clear hb1
    go_wp2_with fail
    go_ret
    exact ⟨rfl, fun e => absurd e T1.out, Kp.of_below HBW.out, HBW.out.mono HSB.out⟩
  · have t' : decide (0 ≤ ix) = true := decide_eq_true t2
    clear t2
    go_enter Tryz.func214, Tryz.ntmps214
    go_wp2_with fail
    refine (c1.out).mono ?_; rintro e w1 ⟨rfl, hb1⟩
    have HB1 := Lib.hid hb1
    have hM1 := (hb1.block w.heap.size (Array.getElem?_eq_some_iff.1 HM0.out).1).trans HM0.out
    have HM1 := Lib.hid hM1
    have HP1 := Lib.hid (HP0.out.below hb1)
    obtain ⟨n0, n1, n2, n3, n4, n5, n6⟩ := box_mod hM1
    obtain ⟨hbp1, _, _, _, q3, _⟩ := pl_cells HP1.out
    have HBW1 := Lib.hid (HB0.out.trans (hb1.mono HB0.out.size))
    have hbl1 : w.heap.size < w1.heap.size := (Array.getElem?_eq_some_iff.1 hM1).1
    clear hb1 hM1 m0 m1 m2 m3 m4 m5 m6
    have HC0 := Lib.hid (show Below w1.heap.size w1 w1 ∧ w1.cell? ⟨w.heap.size, 0, none⟩ = some (.string m.name) ∧ w1.cell? ⟨bp, 3, none⟩ = some (.slice A l.length c) from ⟨Below.refl _ _, by assumption, by assumption⟩)
    have HCD := Lib.hid (show ∀ W' : World, (Below w1.heap.size w1 W' ∧ W'.cell? ⟨w.heap.size, 0, none⟩ = some (.string m.name) ∧ W'.cell? ⟨bp, 3, none⟩ = some (.slice A l.length c)) → (Below w1.heap.size w1 W'.drew ∧ W'.drew.cell? ⟨w.heap.size, 0, none⟩ = some (.string m.name) ∧ W'.drew.cell? ⟨bp, 3, none⟩ = some (.slice A l.length c)) from fun W' ⟨b, a0, a1⟩ => ⟨b.drew, a0, a1⟩)
    have HCS := Lib.hid (show ∀ W' W2 : World, (Below w1.heap.size w1 W' ∧ W'.cell? ⟨w.heap.size, 0, none⟩ = some (.string m.name) ∧ W'.cell? ⟨bp, 3, none⟩ = some (.slice A l.length c)) → Below W'.heap.size W' W2 → (Below w1.heap.size w1 W2 ∧ W2.cell? ⟨w.heap.size, 0, none⟩ = some (.string m.name) ∧ W2.cell? ⟨bp, 3, none⟩ = some (.slice A l.length c)) from fun W' W2 ⟨b, a0, a1⟩ hb => have s := b.size; ⟨b.trans (hb.mono s), (hb.cell (by first | omega | (simp; omega) | (simp only [block_of_add]; omega))).trans a0, (hb.cell (by first | omega | (simp; omega) | (simp only [block_of_add]; omega))).trans a1⟩)
    have HCA := Lib.hid (show ∀ (W' : World) (o : Obj), (Below w1.heap.size w1 W' ∧ W'.cell? ⟨w.heap.size, 0, none⟩ = some (.string m.name) ∧ W'.cell? ⟨bp, 3, none⟩ = some (.slice A l.length c)) → (Below w1.heap.size w1 (W'.alloc o) ∧ (W'.alloc o).cell? ⟨w.heap.size, 0, none⟩ = some (.string m.name) ∧ (W'.alloc o).cell? ⟨bp, 3, none⟩ = some (.slice A l.length c)) from fun W' o hc => HCS.out W' (W'.alloc o) hc ((Below.refl _ _).alloc (Nat.le_refl _) o))
    have HCX := Lib.hid (show ∀ (W' : World) (bX oX : Nat) (vX : Value), w1.heap.size ≤ bX → (Below w1.heap.size w1 W' ∧ W'.cell? ⟨w.heap.size, 0, none⟩ = some (.string m.name) ∧ W'.cell? ⟨bp, 3, none⟩ = some (.slice A l.length c)) → (Below w1.heap.size w1 (W'.setCell ⟨bX, oX, none⟩ vX) ∧ (W'.setCell ⟨bX, oX, none⟩ vX).cell? ⟨w.heap.size, 0, none⟩ = some (.string m.name) ∧ (W'.setCell ⟨bX, oX, none⟩ vX).cell? ⟨bp, 3, none⟩ = some (.slice A l.length c)) from fun W' bX oX vX hbX ⟨b, a0, a1⟩ => ⟨b.setCell (p := ⟨bX, oX, none⟩) hbX vX, (((Below.refl _ _).setCell (p := ⟨bX, oX, none⟩) hbX vX).cell (by first | omega | (simp; omega) | (simp only [block_of_add]; omega))).trans a0, (((Below.refl _ _).setCell (p := ⟨bX, oX, none⟩) hbX vX).cell (by first | omega | (simp; omega) | (simp only [block_of_add]; omega))).trans a1⟩)
    have HCL := Lib.hid (show ∀ W' : World, (Below w1.heap.size w1 W' ∧ W'.cell? ⟨w.heap.size, 0, none⟩ = some (.string m.name) ∧ W'.cell? ⟨bp, 3, none⟩ = some (.slice A l.length c)) → Below w1.heap.size w1 W' from fun W' hc => hc.1)
    go_wp2_with fail
    go_region_held3 (fun W' => Below w1.heap.size w1 W' ∧ W'.cell? ⟨w.heap.size, 0, none⟩ = some (.string m.name) ∧ W'.cell? ⟨bp, 3, none⟩ = some (.slice A l.length c)) (first | exact HC0.out | exact HCD.out _ HC0.out | exact HCS.out _ _ (by assumption) (by assumption) | exact HCS.out _ _ HC0.out (by assumption) | exact HCS.out _ _ (HCD.out _ HC0.out) (by assumption) | exact HCS.out _ _ (HCD.out _ (by assumption)) (by assumption) | exact HCD.out _ (by assumption) | exact HCA.out _ _ (by assumption) | exact HCA.out _ _ HC0.out | exact HCA.out _ _ (HCD.out _ HC0.out) | exact HCD.out _ (HCA.out _ _ (by assumption)) | exact HCA.out _ _ (HCS.out _ _ HC0.out (by assumption)) | exact HCA.out _ _ (HCS.out _ _ (HCD.out _ HC0.out) (by assumption)) | exact HCX.out _ _ _ _ (Nat.le_refl _) (by assumption) | exact HCX.out _ _ _ _ (Nat.le_refl _) (HCS.out _ _ (HCA.out _ _ HC0.out) (by assumption)) | exact HCX.out _ _ _ _ (Nat.le_refl _) (HCS.out _ _ (HCD.out _ (HCA.out _ _ HC0.out)) (by assumption)) | assumption) (first | (go_at_call 124; (with_reducible refine (cP.out _ (HB1.out.trans ((HCL.out _ (by first | assumption | exact HCD.out _ (by assumption) | exact HC0.out | exact HCD.out _ HC0.out)).mono HB1.out.size))).mono ?_); rintro e w4 ⟨rfl, hb4⟩))
    have HB4 := Lib.hid (HCL.out w4 (by assumption))
    have HP4 := Lib.hid (HP1.out.below HB4.out)
    have HBW := Lib.hid (HBW1.out.trans (HB4.out.mono HBW1.out.size))
    have HB14 := Lib.hid (HB1.out.trans (HB4.out.mono HB1.out.size))
    obtain ⟨p0, p1, p2, p3, p4, p5, p6⟩ := box_mod ((HB4.out.block w.heap.size hbl1).trans HM1.out)
    obtain ⟨hbp4, _, _, _, r3, _⟩ := pl_cells HP4.out
    clear hb4 HC0 HCD HCS HCA HCX HCL n0 n1 n2 n3 n4 n5 n6 q3 hbp1 hbl1
    go_wp2_with fail
    go_ret
    exact ⟨rfl, fun e => absurd e (by decide), Kp.of_below HBW.out, HBW.out.mono HSB.out⟩
  · have t' : decide (0 ≤ ix) = false := decide_eq_false t2
    clear t2
    go_enter Tryz.func214, Tryz.ntmps214
    go_wp2_with fail
    refine (c1.out).mono ?_; rintro e w1 ⟨rfl, hb1⟩
    have HB1 := Lib.hid hb1
    have hM1 := (hb1.block w.heap.size (Array.getElem?_eq_some_iff.1 HM0.out).1).trans HM0.out
    have HM1 := Lib.hid hM1
    have HP1 := Lib.hid (HP0.out.below hb1)
    obtain ⟨n0, n1, n2, n3, n4, n5, n6⟩ := box_mod hM1
    obtain ⟨hbp1, _, _, _, q3, _⟩ := pl_cells HP1.out
    have HBW1 := Lib.hid (HB0.out.trans (hb1.mono HB0.out.size))
    have hbl1 : w.heap.size < w1.heap.size := (Array.getElem?_eq_some_iff.1 hM1).1
    clear hb1 hM1 m0 m1 m2 m3 m4 m5 m6
    have HC0 := Lib.hid (show Below w1.heap.size w1 w1 ∧ w1.cell? ⟨w.heap.size, 0, none⟩ = some (.string m.name) ∧ w1.cell? ⟨bp, 3, none⟩ = some (.slice A l.length c) from ⟨Below.refl _ _, by assumption, by assumption⟩)
    have HCD := Lib.hid (show ∀ W' : World, (Below w1.heap.size w1 W' ∧ W'.cell? ⟨w.heap.size, 0, none⟩ = some (.string m.name) ∧ W'.cell? ⟨bp, 3, none⟩ = some (.slice A l.length c)) → (Below w1.heap.size w1 W'.drew ∧ W'.drew.cell? ⟨w.heap.size, 0, none⟩ = some (.string m.name) ∧ W'.drew.cell? ⟨bp, 3, none⟩ = some (.slice A l.length c)) from fun W' ⟨b, a0, a1⟩ => ⟨b.drew, a0, a1⟩)
    have HCS := Lib.hid (show ∀ W' W2 : World, (Below w1.heap.size w1 W' ∧ W'.cell? ⟨w.heap.size, 0, none⟩ = some (.string m.name) ∧ W'.cell? ⟨bp, 3, none⟩ = some (.slice A l.length c)) → Below W'.heap.size W' W2 → (Below w1.heap.size w1 W2 ∧ W2.cell? ⟨w.heap.size, 0, none⟩ = some (.string m.name) ∧ W2.cell? ⟨bp, 3, none⟩ = some (.slice A l.length c)) from fun W' W2 ⟨b, a0, a1⟩ hb => have s := b.size; ⟨b.trans (hb.mono s), (hb.cell (by first | omega | (simp; omega) | (simp only [block_of_add]; omega))).trans a0, (hb.cell (by first | omega | (simp; omega) | (simp only [block_of_add]; omega))).trans a1⟩)
    have HCA := Lib.hid (show ∀ (W' : World) (o : Obj), (Below w1.heap.size w1 W' ∧ W'.cell? ⟨w.heap.size, 0, none⟩ = some (.string m.name) ∧ W'.cell? ⟨bp, 3, none⟩ = some (.slice A l.length c)) → (Below w1.heap.size w1 (W'.alloc o) ∧ (W'.alloc o).cell? ⟨w.heap.size, 0, none⟩ = some (.string m.name) ∧ (W'.alloc o).cell? ⟨bp, 3, none⟩ = some (.slice A l.length c)) from fun W' o hc => HCS.out W' (W'.alloc o) hc ((Below.refl _ _).alloc (Nat.le_refl _) o))
    have HCX := Lib.hid (show ∀ (W' : World) (bX oX : Nat) (vX : Value), w1.heap.size ≤ bX → (Below w1.heap.size w1 W' ∧ W'.cell? ⟨w.heap.size, 0, none⟩ = some (.string m.name) ∧ W'.cell? ⟨bp, 3, none⟩ = some (.slice A l.length c)) → (Below w1.heap.size w1 (W'.setCell ⟨bX, oX, none⟩ vX) ∧ (W'.setCell ⟨bX, oX, none⟩ vX).cell? ⟨w.heap.size, 0, none⟩ = some (.string m.name) ∧ (W'.setCell ⟨bX, oX, none⟩ vX).cell? ⟨bp, 3, none⟩ = some (.slice A l.length c)) from fun W' bX oX vX hbX ⟨b, a0, a1⟩ => ⟨b.setCell (p := ⟨bX, oX, none⟩) hbX vX, (((Below.refl _ _).setCell (p := ⟨bX, oX, none⟩) hbX vX).cell (by first | omega | (simp; omega) | (simp only [block_of_add]; omega))).trans a0, (((Below.refl _ _).setCell (p := ⟨bX, oX, none⟩) hbX vX).cell (by first | omega | (simp; omega) | (simp only [block_of_add]; omega))).trans a1⟩)
    have HCL := Lib.hid (show ∀ W' : World, (Below w1.heap.size w1 W' ∧ W'.cell? ⟨w.heap.size, 0, none⟩ = some (.string m.name) ∧ W'.cell? ⟨bp, 3, none⟩ = some (.slice A l.length c)) → Below w1.heap.size w1 W' from fun W' hc => hc.1)
    go_wp2_with fail
    go_region_held3 (fun W' => Below w1.heap.size w1 W' ∧ W'.cell? ⟨w.heap.size, 0, none⟩ = some (.string m.name) ∧ W'.cell? ⟨bp, 3, none⟩ = some (.slice A l.length c)) (first | exact HC0.out | exact HCD.out _ HC0.out | exact HCS.out _ _ (by assumption) (by assumption) | exact HCS.out _ _ HC0.out (by assumption) | exact HCS.out _ _ (HCD.out _ HC0.out) (by assumption) | exact HCS.out _ _ (HCD.out _ (by assumption)) (by assumption) | exact HCD.out _ (by assumption) | exact HCA.out _ _ (by assumption) | exact HCA.out _ _ HC0.out | exact HCA.out _ _ (HCD.out _ HC0.out) | exact HCD.out _ (HCA.out _ _ (by assumption)) | exact HCA.out _ _ (HCS.out _ _ HC0.out (by assumption)) | exact HCA.out _ _ (HCS.out _ _ (HCD.out _ HC0.out) (by assumption)) | exact HCX.out _ _ _ _ (Nat.le_refl _) (by assumption) | exact HCX.out _ _ _ _ (Nat.le_refl _) (HCS.out _ _ (HCA.out _ _ HC0.out) (by assumption)) | exact HCX.out _ _ _ _ (Nat.le_refl _) (HCS.out _ _ (HCD.out _ (HCA.out _ _ HC0.out)) (by assumption)) | assumption) (first | (go_at_call 124; (with_reducible refine (cP.out _ (HB1.out.trans ((HCL.out _ (by first | assumption | exact HCD.out _ (by assumption) | exact HC0.out | exact HCD.out _ HC0.out)).mono HB1.out.size))).mono ?_); rintro e w4 ⟨rfl, hb4⟩))
    have HB4 := Lib.hid (HCL.out w4 (by assumption))
    have HP4 := Lib.hid (HP1.out.below HB4.out)
    have HBW := Lib.hid (HBW1.out.trans (HB4.out.mono HBW1.out.size))
    have HB14 := Lib.hid (HB1.out.trans (HB4.out.mono HB1.out.size))
    obtain ⟨p0, p1, p2, p3, p4, p5, p6⟩ := box_mod ((HB4.out.block w.heap.size hbl1).trans HM1.out)
    obtain ⟨hbp4, _, _, _, r3, _⟩ := pl_cells HP4.out
    clear hb4 HC0 HCD HCS HCA HCX HCL n0 n1 n2 n3 n4 n5 n6 q3 hbp1 hbl1
    have t4 : ((l.length : Int) == 8) = true := by have := t3.out; simp; omega
    go_wp2_with fail
    go_ret
    exact ⟨rfl, fun e => absurd e (by decide), Kp.of_below HBW.out, HBW.out.mono HSB.out⟩
  · have t' : decide (0 ≤ ix) = false := decide_eq_false t2
    go_enter Tryz.func214, Tryz.ntmps214
    go_wp2_with fail
    refine (c1.out).mono ?_; rintro e w1 ⟨rfl, hb1⟩
    have HB1 := Lib.hid hb1
    have hM1 := (hb1.block w.heap.size (Array.getElem?_eq_some_iff.1 HM0.out).1).trans HM0.out
    have HM1 := Lib.hid hM1
    have HP1 := Lib.hid (HP0.out.below hb1)
    obtain ⟨n0, n1, n2, n3, n4, n5, n6⟩ := box_mod hM1
    obtain ⟨hbp1, _, _, _, q3, _⟩ := pl_cells HP1.out
    have HBW1 := Lib.hid (HB0.out.trans (hb1.mono HB0.out.size))
    have hbl1 : w.heap.size < w1.heap.size := (Array.getElem?_eq_some_iff.1 hM1).1
    clear hb1 hM1 m0 m1 m2 m3 m4 m5 m6
    have HC0 := Lib.hid (show Below w1.heap.size w1 w1 ∧ w1.cell? ⟨w.heap.size, 0, none⟩ = some (.string m.name) ∧ w1.cell? ⟨bp, 3, none⟩ = some (.slice A l.length c) from ⟨Below.refl _ _, by assumption, by assumption⟩)
    have HCD := Lib.hid (show ∀ W' : World, (Below w1.heap.size w1 W' ∧ W'.cell? ⟨w.heap.size, 0, none⟩ = some (.string m.name) ∧ W'.cell? ⟨bp, 3, none⟩ = some (.slice A l.length c)) → (Below w1.heap.size w1 W'.drew ∧ W'.drew.cell? ⟨w.heap.size, 0, none⟩ = some (.string m.name) ∧ W'.drew.cell? ⟨bp, 3, none⟩ = some (.slice A l.length c)) from fun W' ⟨b, a0, a1⟩ => ⟨b.drew, a0, a1⟩)
    have HCS := Lib.hid (show ∀ W' W2 : World, (Below w1.heap.size w1 W' ∧ W'.cell? ⟨w.heap.size, 0, none⟩ = some (.string m.name) ∧ W'.cell? ⟨bp, 3, none⟩ = some (.slice A l.length c)) → Below W'.heap.size W' W2 → (Below w1.heap.size w1 W2 ∧ W2.cell? ⟨w.heap.size, 0, none⟩ = some (.string m.name) ∧ W2.cell? ⟨bp, 3, none⟩ = some (.slice A l.length c)) from fun W' W2 ⟨b, a0, a1⟩ hb => have s := b.size; ⟨b.trans (hb.mono s), (hb.cell (by first | omega | (simp; omega) | (simp only [block_of_add]; omega))).trans a0, (hb.cell (by first | omega | (simp; omega) | (simp only [block_of_add]; omega))).trans a1⟩)
    have HCA := Lib.hid (show ∀ (W' : World) (o : Obj), (Below w1.heap.size w1 W' ∧ W'.cell? ⟨w.heap.size, 0, none⟩ = some (.string m.name) ∧ W'.cell? ⟨bp, 3, none⟩ = some (.slice A l.length c)) → (Below w1.heap.size w1 (W'.alloc o) ∧ (W'.alloc o).cell? ⟨w.heap.size, 0, none⟩ = some (.string m.name) ∧ (W'.alloc o).cell? ⟨bp, 3, none⟩ = some (.slice A l.length c)) from fun W' o hc => HCS.out W' (W'.alloc o) hc ((Below.refl _ _).alloc (Nat.le_refl _) o))
    have HCX := Lib.hid (show ∀ (W' : World) (bX oX : Nat) (vX : Value), w1.heap.size ≤ bX → (Below w1.heap.size w1 W' ∧ W'.cell? ⟨w.heap.size, 0, none⟩ = some (.string m.name) ∧ W'.cell? ⟨bp, 3, none⟩ = some (.slice A l.length c)) → (Below w1.heap.size w1 (W'.setCell ⟨bX, oX, none⟩ vX) ∧ (W'.setCell ⟨bX, oX, none⟩ vX).cell? ⟨w.heap.size, 0, none⟩ = some (.string m.name) ∧ (W'.setCell ⟨bX, oX, none⟩ vX).cell? ⟨bp, 3, none⟩ = some (.slice A l.length c)) from fun W' bX oX vX hbX ⟨b, a0, a1⟩ => ⟨b.setCell (p := ⟨bX, oX, none⟩) hbX vX, (((Below.refl _ _).setCell (p := ⟨bX, oX, none⟩) hbX vX).cell (by first | omega | (simp; omega) | (simp only [block_of_add]; omega))).trans a0, (((Below.refl _ _).setCell (p := ⟨bX, oX, none⟩) hbX vX).cell (by first | omega | (simp; omega) | (simp only [block_of_add]; omega))).trans a1⟩)
    have HCL := Lib.hid (show ∀ W' : World, (Below w1.heap.size w1 W' ∧ W'.cell? ⟨w.heap.size, 0, none⟩ = some (.string m.name) ∧ W'.cell? ⟨bp, 3, none⟩ = some (.slice A l.length c)) → Below w1.heap.size w1 W' from fun W' hc => hc.1)
    go_wp2_with fail
    go_region_held3 (fun W' => Below w1.heap.size w1 W' ∧ W'.cell? ⟨w.heap.size, 0, none⟩ = some (.string m.name) ∧ W'.cell? ⟨bp, 3, none⟩ = some (.slice A l.length c)) (first | exact HC0.out | exact HCD.out _ HC0.out | exact HCS.out _ _ (by assumption) (by assumption) | exact HCS.out _ _ HC0.out (by assumption) | exact HCS.out _ _ (HCD.out _ HC0.out) (by assumption) | exact HCS.out _ _ (HCD.out _ (by assumption)) (by assumption) | exact HCD.out _ (by assumption) | exact HCA.out _ _ (by assumption) | exact HCA.out _ _ HC0.out | exact HCA.out _ _ (HCD.out _ HC0.out) | exact HCD.out _ (HCA.out _ _ (by assumption)) | exact HCA.out _ _ (HCS.out _ _ HC0.out (by assumption)) | exact HCA.out _ _ (HCS.out _ _ (HCD.out _ HC0.out) (by assumption)) | exact HCX.out _ _ _ _ (Nat.le_refl _) (by assumption) | exact HCX.out _ _ _ _ (Nat.le_refl _) (HCS.out _ _ (HCA.out _ _ HC0.out) (by assumption)) | exact HCX.out _ _ _ _ (Nat.le_refl _) (HCS.out _ _ (HCD.out _ (HCA.out _ _ HC0.out)) (by assumption)) | assumption) (first | (go_at_call 124; (with_reducible refine (cP.out _ (HB1.out.trans ((HCL.out _ (by first | assumption | exact HCD.out _ (by assumption) | exact HC0.out | exact HCD.out _ HC0.out)).mono HB1.out.size))).mono ?_); rintro e w4 ⟨rfl, hb4⟩))
    have HB4 := Lib.hid (HCL.out w4 (by assumption))
    have HP4 := Lib.hid (HP1.out.below HB4.out)
    have HBW := Lib.hid (HBW1.out.trans (HB4.out.mono HBW1.out.size))
    have HB14 := Lib.hid (HB1.out.trans (HB4.out.mono HB1.out.size))
    obtain ⟨p0, p1, p2, p3, p4, p5, p6⟩ := box_mod ((HB4.out.block w.heap.size hbl1).trans HM1.out)
    obtain ⟨hbp4, _, _, _, r3, _⟩ := pl_cells HP4.out
    clear hb4 HC0 HCD HCS HCA HCX HCL n0 n1 n2 n3 n4 n5 n6 q3 hbp1 hbl1
    have t4 : ((l.length : Int) == 8) = false := by have := t3.out; simp; omega
    have c5 := Lib.hid (cF.out w4 HB14.out (by trivial))
    clear cF
    go_wp2_with fail
    refine (c5.out).mono ?_; rintro e w5 hd
    have HD := Lib.hid (PDone.after (Kp.of_below HBW.out) (HBW.out.mono HSB.out) _ _ hd)
    obtain ⟨rfl, _⟩ := hd
    go_wp2_with fail
    go_ret
    exact HD.out

theorem rem_cases (l : List Plc) (nm : ByteArray) : (idxOf (named nm) l < 0 ∧ remPre l nm = 5) ∨ (∃ j : Nat, idxOf (named nm) l = j ∧ usedT l nm = true ∧ remPre l nm = 4) ∨ (∃ j : Nat, idxOf (named nm) l = j ∧ usedT l nm = false ∧ remPre l nm = 0) := by
  unfold remPre
  by_cases h1 : idxOf (named nm) l < 0
  · rw [if_pos h1]; exact .inl ⟨h1, rfl⟩
  · rw [if_neg h1]
    have hj : idxOf (named nm) l = ((idxOf (named nm) l).toNat : Nat) := by omega
    cases h2 : usedT l nm
    · exact .inr (.inr ⟨_, hj, rfl, rfl⟩)
    · exact .inr (.inl ⟨_, hj, rfl, rfl⟩)

set_option maxHeartbeats 4000000 in
set_option maxRecDepth 100000 in
theorem Premove_any (base bp : Nat) (k : Krn) (A : Option Addr) (c : Nat) (l : List Plc) (nm : ByteArray) (w : World) (h : PlannerOk w base bp k A l c) (h8 : l.length ≤ 8) :
    Calls Tryz.prog 215 #[.pointer (some ⟨bp, 0, none⟩), .string nm] w (PDone w base bp k (remPre l nm) (remL l nm)) := by
  have HP := Lib.hid h
  have HSB := Lib.hid h.size
  obtain ⟨_, _, _, _, p3, _⟩ := pl_cells h
  have c1 := Lib.hid (Place_any A c l nm w h.ok.row h.ok.len)
  have c2 := Lib.hid (fun W (hb : Below w.heap.size w W) => Used_any A c l nm W (h.below hb).ok)
  have c3 := Lib.hid (fun W (hb : Below w.heap.size w W) (j : Nat) (hj : idxOf (named nm) l = j) => Ptake_any base bp k A c l nm j W (h.below hb) hj h8)
  have cases := rem_cases l nm
  obtain ⟨L, hL⟩ : ∃ L, L = remL l nm := ⟨_, rfl⟩
  rw [← hL] at c3 ⊢
  obtain ⟨E, hE⟩ : ∃ E, E = remPre l nm := ⟨_, rfl⟩
  rw [← hE] at cases ⊢
  obtain ⟨ix, hix⟩ : ∃ ix, ix = idxOf (named nm) l := ⟨_, rfl⟩
  rw [← hix] at c1 c3 cases
  obtain ⟨us, hus⟩ : ∃ us, us = usedT l nm := ⟨_, rfl⟩
  rw [← hus] at c2 cases
  clear h h8 hL hE hix hus
  rcases cases with ⟨t1, rfl⟩ | ⟨j, rfl, rfl, rfl⟩ | ⟨j, rfl, rfl, rfl⟩
  · have t' : decide (ix < 0) = true := decide_eq_true t1
    clear t1
    go_enter Tryz.func215, Tryz.ntmps215
    go_wp2_with fail
    refine (c1.out).mono ?_; rintro e w1 ⟨rfl, hb1⟩
    have HB1 := Lib.hid hb1
    clear hb1
    go_wp2_with fail
    go_ret
    exact ⟨rfl, fun e => absurd e (by decide), Kp.of_below HB1.out, HB1.out.mono HSB.out⟩
  · have t' : decide ((j : Int) < 0) = false := decide_eq_false (by omega)
    go_enter Tryz.func215, Tryz.ntmps215
    go_wp2_with fail
    refine (c1.out).mono ?_; rintro e w1 ⟨rfl, hb1⟩
    have HB1 := Lib.hid hb1
    obtain ⟨_, _, _, _, q3, _⟩ := pl_cells (HP.out.below hb1)
    clear hb1
    go_wp2_with fail
    refine (c2.out _ HB1.out).mono ?_; rintro e w2 ⟨rfl, hb2⟩
    have HB2 := Lib.hid (HB1.out.trans (hb2.mono HB1.out.size))
    clear hb2
    go_wp2_with fail
    go_ret
    exact ⟨rfl, fun e => absurd e (by decide), Kp.of_below HB2.out, HB2.out.mono HSB.out⟩
  · have t' : decide ((j : Int) < 0) = false := decide_eq_false (by omega)
    go_enter Tryz.func215, Tryz.ntmps215
    go_wp2_with fail
    refine (c1.out).mono ?_; rintro e w1 ⟨rfl, hb1⟩
    have HB1 := Lib.hid hb1
    obtain ⟨_, _, _, _, q3, _⟩ := pl_cells (HP.out.below hb1)
    clear hb1
    go_wp2_with fail
    refine (c2.out _ HB1.out).mono ?_; rintro e w2 ⟨rfl, hb2⟩
    have HB2 := Lib.hid (HB1.out.trans (hb2.mono HB1.out.size))
    have c4 := Lib.hid (c3.out w2 HB2.out j rfl)
    clear hb2 c3
    go_wp2_with fail
    refine (c4.out).mono ?_; rintro e w3 ⟨rfl, ⟨A', c', hp3⟩, hk3, hb3⟩
    have HP3 := Lib.hid hp3
    have HK3 := Lib.hid hk3
    have HB3 := Lib.hid hb3
    clear hp3 hk3 hb3
    go_wp2_with fail
    go_ret
    exact ⟨rfl, fun _ => ⟨A', c', L, rfl, HP3.out⟩, (Kp.of_below HB2.out).trans HK3.out, (HB2.out.mono HSB.out).trans HB3.out⟩

theorem upg_cases (l : List Plc) (m : Mod) : (modErr m ≠ 0 ∧ upgPre l m = modErr m) ∨ (modErr m = 0 ∧ idxOf (named m.name) l < 0 ∧ upgPre l m = 5) ∨
    (∃ j : Nat, modErr m = 0 ∧ idxOf (named m.name) l = j ∧ (runsOf (remL l m.name)).any (fitsQ (firstAt l m.name) (manyOf m)) = true ∧ (0 ≤ firstAt l m.name → upgPre l m = 0) ∧ upgL l m = withL (remL l m.name) m (firstAt l m.name)) ∨
    (∃ j : Nat, modErr m = 0 ∧ idxOf (named m.name) l = j ∧ (runsOf (remL l m.name)).any (fitsQ (firstAt l m.name) (manyOf m)) = false ∧ upgPre l m = (if fitIn (manyOf m) (runsOf (remL l m.name)) < 0 then 8 else 0) ∧ upgL l m = withL (remL l m.name) m (fitIn (manyOf m) (runsOf (remL l m.name)))) := by
  unfold upgPre upgL upgAt
  by_cases h1 : modErr m = 0
  · rw [if_neg (by omega)]
    by_cases h2 : idxOf (named m.name) l < 0
    · rw [if_pos h2]; exact .inr (.inl ⟨h1, h2, rfl⟩)
    · rw [if_neg h2]
      have hj : idxOf (named m.name) l = ((idxOf (named m.name) l).toNat : Nat) := by omega
      cases h3 : (runsOf (remL l m.name)).any (fitsQ (firstAt l m.name) (manyOf m))
      · exact .inr (.inr (.inr ⟨_, h1, hj, rfl, rfl, rfl⟩))
      · exact .inr (.inr (.inl ⟨_, h1, hj, rfl, fun h0 => by rw [if_pos rfl, if_neg (by omega)], rfl⟩))
  · rw [if_pos h1]; exact .inl ⟨h1, rfl⟩

set_option maxHeartbeats 4000000 in
set_option maxRecDepth 100000 in
theorem Pupgrade_any (base bp : Nat) (k : Krn) (A : Option Addr) (c : Nat) (l : List Plc) (m : Mod) (w : World) (h : PlannerOk w base bp k A l c) (hmB : ∀ W, Below base w W → m.ok W) (hr : regErr l = 0) :
    Calls Tryz.prog 216 #[.pointer (some ⟨bp, 0, none⟩), m.v] w (PDone w base bp k (upgPre l m) (upgL l m)) := by
  have hm := hmB w (Below.refl _ _)
  obtain ⟨w0, hw0⟩ : ∃ w0, w0 = w.alloc (.cells #[.string m.name, .int .i64 m.major, .int .i64 m.minor, .string m.text, .slice m.eA m.ex.length m.eC, .slice m.iA m.im.length m.iC, .slice m.pA m.pa.length m.pC] 70) := ⟨_, rfl⟩
  have hb0 : Below w.heap.size w w0 := hw0 ▸ (Below.refl _ _).alloc (Nat.le_refl _) _
  have hM0 : w0.heap[w.heap.size]? = some (.cells #[.string m.name, .int .i64 m.major, .int .i64 m.minor, .string m.text, .slice m.eA m.ex.length m.eC, .slice m.iA m.im.length m.iC, .slice m.pA m.pa.length m.pC] 70 (0, 0)) := by rw [hw0]; exact heap_alloc_new w _
  have HP0 := Lib.hid (h.below hb0)
  obtain ⟨m0, m1, m2, m3, m4, m5, m6⟩ := box_mod hM0
  have HM0 := Lib.hid hM0
  have HB0 := Lib.hid hb0
  have HSB := Lib.hid h.size
  have hrow := reg_row hr
  have H8 := Lib.hid hrow.1
  have HRW := Lib.hid hrow.2.2
  have c1 := Lib.hid (Check_any m w0 (hm.below hb0))
  have cases := upg_cases l m
  have cP := Lib.hid (fun W (hb : Below w0.heap.size w0 W) => Place_any A c l m.name W (HP0.out.below hb).ok.row (HP0.out.below hb).ok.len)
  have cT := Lib.hid (fun W (hb : Below w0.heap.size w0 W) (j : Nat) (hj : idxOf (named m.name) l = j) => Ptake_any base bp k A c l m.name j W (HP0.out.below hb) hj H8.out)
  have cM := Lib.hid (fun W => Many_any m W hm.text)
  have hrr : regErr (remL l m.name) = 0 := by unfold remL; exact regErr_erase hr _
  have hr8 : (remL l m.name).length ≤ 8 := (reg_row hrr).1
  have HFI := Lib.hid (fun (j : Nat) (hj : idxOf (named m.name) l = j) => show 0 ≤ firstAt l m.name ∧ firstAt l m.name ≤ 16 from by
    obtain ⟨hjl, e⟩ := firstAt_idx hj
    have h1 := row_first hrow.2.2 _ (List.getElem_mem hjl)
    have h2 := (many_ok (hrow.2.1 _ (List.getElem_mem hjl)).1).1
    have h3 : endOf l[j] = l[j].first + manyOf l[j].m := rfl
    rw [e]; omega)
  have HMN := Lib.hid (fun (he : modErr m = 0) => many_ok he)
  have cR := Lib.hid (fun (A' : Option Addr) (c' : Nat) W (first : Int) (h1 : -1000 ≤ first ∧ first ≤ 1000) (h2 : -1000 ≤ manyOf m ∧ manyOf m ≤ 1000) (hp : PlannerOk W base bp k A' (remL l m.name) c') => Pfree_any base bp k A' c' (remL l m.name) first (manyOf m) W hp hrr h1 h2)
  have cF := Lib.hid (fun (A' : Option Addr) (c' : Nat) W (hmo : m.ok W) (hp : PlannerOk W base bp k A' (remL l m.name) c') (he : modErr m = 0) => Pfit_any base bp k A' c' (remL l m.name) m W hp hmo he hrr)
  have cU := Lib.hid (fun (A' : Option Addr) (c' : Nat) W (hmo : m.ok W) (hp : PlannerOk W base bp k A' (remL l m.name) c') (he : modErr m = 0) => Pput_any base bp k A' c' (remL l m.name) m (firstAt l m.name) W hp hmo he hr8)
  have HMO := Lib.hid hmB
  obtain ⟨E, hE⟩ : ∃ E, E = upgPre l m := ⟨_, rfl⟩
  rw [← hE] at cases ⊢
  have hw0' := hw0.symm
  obtain ⟨fa, hfa⟩ : ∃ fa, fa = firstAt l m.name := ⟨_, rfl⟩
  rw [← hfa] at cases cT HFI cU
  obtain ⟨mm, hmm⟩ : ∃ mm, mm = manyOf m := ⟨_, rfl⟩
  rw [← hmm] at cases cM HMN cR
  obtain ⟨R, hR⟩ : ∃ R, R = remL l m.name := ⟨_, rfl⟩
  rw [← hR] at cases cT cR cF cU
  obtain ⟨U, hU⟩ : ∃ U, U = upgL l m := ⟨_, rfl⟩
  rw [← hU] at cases ⊢
  rw [← hmm] at cF
  obtain ⟨fq, hfq⟩ : ∃ fq : Int, fq = if fitIn mm (runsOf R) < 0 then 8 else 0 := ⟨_, rfl⟩
  rw [← hfq] at cases cF
  obtain ⟨fi, hfi⟩ : ∃ fi, fi = fitIn mm (runsOf R) := ⟨_, rfl⟩
  rw [← hfi] at cases cF
  obtain ⟨fr, hfr⟩ : ∃ fr, fr = (runsOf R).any (fitsQ fa mm) := ⟨_, rfl⟩
  rw [← hfr] at cases
  have HFR := Lib.hid hfr
  obtain ⟨M, hM⟩ : ∃ M, M = modErr m := ⟨_, rfl⟩
  rw [← hM] at c1 cases cF cU HMN
  obtain ⟨ix, hix⟩ : ∃ ix, ix = idxOf (named m.name) l := ⟨_, rfl⟩
  rw [← hix] at cP cT HFI cases
  clear hw0 hb0 hM0 h hm hmB hr hE hrr hr8 hrow hfa hmm hR hU hfq hfi hfr hM hix
  rcases cases with ⟨t1, rfl⟩ | ⟨rfl, t2, rfl⟩ | ⟨j, rfl, rfl, t3, t4, rfl⟩ | ⟨j, rfl, rfl, t3, rfl, rfl⟩
  · have t1' : (E != 0) = true := by simp [t1]
    have T1 := Lib.hid t1
    clear t1
    go_enter Tryz.func216, Tryz.ntmps216
    go_wp2_with fail
    refine (c1.out).mono ?_; rintro e w1 ⟨rfl, hb1⟩
    have HBW := Lib.hid (HB0.out.trans (hb1.mono HB0.out.size))
    clear hb1
    go_wp2_with fail
    go_ret
    exact ⟨rfl, fun e => absurd e T1.out, Kp.of_below HBW.out, HBW.out.mono HSB.out⟩
  · have t' : decide (ix < 0) = true := decide_eq_true t2
    clear t2
    go_enter Tryz.func216, Tryz.ntmps216
    go_wp2_with fail
    refine (c1.out).mono ?_; rintro e w1 ⟨rfl, hb1⟩
    have HB1 := Lib.hid hb1
    have hM1 := (hb1.block w.heap.size (Array.getElem?_eq_some_iff.1 HM0.out).1).trans HM0.out
    have HM1 := Lib.hid hM1
    have HP1 := Lib.hid (HP0.out.below hb1)
    obtain ⟨n0, n1, n2, n3, n4, n5, n6⟩ := box_mod hM1
    obtain ⟨hbp1, _, _, _, q3, _⟩ := pl_cells HP1.out
    have HBW1 := Lib.hid (HB0.out.trans (hb1.mono HB0.out.size))
    have hbl1 : w.heap.size < w1.heap.size := (Array.getElem?_eq_some_iff.1 hM1).1
    clear hb1 hM1 m0 m1 m2 m3 m4 m5 m6
    have HC0 := Lib.hid (show Below w1.heap.size w1 w1 ∧ w1.cell? ⟨w.heap.size, 0, none⟩ = some (.string m.name) ∧ w1.cell? ⟨bp, 3, none⟩ = some (.slice A l.length c) from ⟨Below.refl _ _, by assumption, by assumption⟩)
    have HCD := Lib.hid (show ∀ W' : World, (Below w1.heap.size w1 W' ∧ W'.cell? ⟨w.heap.size, 0, none⟩ = some (.string m.name) ∧ W'.cell? ⟨bp, 3, none⟩ = some (.slice A l.length c)) → (Below w1.heap.size w1 W'.drew ∧ W'.drew.cell? ⟨w.heap.size, 0, none⟩ = some (.string m.name) ∧ W'.drew.cell? ⟨bp, 3, none⟩ = some (.slice A l.length c)) from fun W' ⟨b, a0, a1⟩ => ⟨b.drew, a0, a1⟩)
    have HCS := Lib.hid (show ∀ W' W2 : World, (Below w1.heap.size w1 W' ∧ W'.cell? ⟨w.heap.size, 0, none⟩ = some (.string m.name) ∧ W'.cell? ⟨bp, 3, none⟩ = some (.slice A l.length c)) → Below W'.heap.size W' W2 → (Below w1.heap.size w1 W2 ∧ W2.cell? ⟨w.heap.size, 0, none⟩ = some (.string m.name) ∧ W2.cell? ⟨bp, 3, none⟩ = some (.slice A l.length c)) from fun W' W2 ⟨b, a0, a1⟩ hb => have s := b.size; ⟨b.trans (hb.mono s), (hb.cell (by first | omega | (simp; omega) | (simp only [block_of_add]; omega))).trans a0, (hb.cell (by first | omega | (simp; omega) | (simp only [block_of_add]; omega))).trans a1⟩)
    have HCA := Lib.hid (show ∀ (W' : World) (o : Obj), (Below w1.heap.size w1 W' ∧ W'.cell? ⟨w.heap.size, 0, none⟩ = some (.string m.name) ∧ W'.cell? ⟨bp, 3, none⟩ = some (.slice A l.length c)) → (Below w1.heap.size w1 (W'.alloc o) ∧ (W'.alloc o).cell? ⟨w.heap.size, 0, none⟩ = some (.string m.name) ∧ (W'.alloc o).cell? ⟨bp, 3, none⟩ = some (.slice A l.length c)) from fun W' o hc => HCS.out W' (W'.alloc o) hc ((Below.refl _ _).alloc (Nat.le_refl _) o))
    have HCX := Lib.hid (show ∀ (W' : World) (bX oX : Nat) (vX : Value), w1.heap.size ≤ bX → (Below w1.heap.size w1 W' ∧ W'.cell? ⟨w.heap.size, 0, none⟩ = some (.string m.name) ∧ W'.cell? ⟨bp, 3, none⟩ = some (.slice A l.length c)) → (Below w1.heap.size w1 (W'.setCell ⟨bX, oX, none⟩ vX) ∧ (W'.setCell ⟨bX, oX, none⟩ vX).cell? ⟨w.heap.size, 0, none⟩ = some (.string m.name) ∧ (W'.setCell ⟨bX, oX, none⟩ vX).cell? ⟨bp, 3, none⟩ = some (.slice A l.length c)) from fun W' bX oX vX hbX ⟨b, a0, a1⟩ => ⟨b.setCell (p := ⟨bX, oX, none⟩) hbX vX, (((Below.refl _ _).setCell (p := ⟨bX, oX, none⟩) hbX vX).cell (by first | omega | (simp; omega) | (simp only [block_of_add]; omega))).trans a0, (((Below.refl _ _).setCell (p := ⟨bX, oX, none⟩) hbX vX).cell (by first | omega | (simp; omega) | (simp only [block_of_add]; omega))).trans a1⟩)
    have HCL := Lib.hid (show ∀ W' : World, (Below w1.heap.size w1 W' ∧ W'.cell? ⟨w.heap.size, 0, none⟩ = some (.string m.name) ∧ W'.cell? ⟨bp, 3, none⟩ = some (.slice A l.length c)) → Below w1.heap.size w1 W' from fun W' hc => hc.1)
    go_wp2_with fail
    go_region_held3 (fun W' => Below w1.heap.size w1 W' ∧ W'.cell? ⟨w.heap.size, 0, none⟩ = some (.string m.name) ∧ W'.cell? ⟨bp, 3, none⟩ = some (.slice A l.length c)) (first | exact HC0.out | exact HCD.out _ HC0.out | exact HCS.out _ _ (by assumption) (by assumption) | exact HCS.out _ _ HC0.out (by assumption) | exact HCS.out _ _ (HCD.out _ HC0.out) (by assumption) | exact HCS.out _ _ (HCD.out _ (by assumption)) (by assumption) | exact HCD.out _ (by assumption) | exact HCA.out _ _ (by assumption) | exact HCA.out _ _ HC0.out | exact HCA.out _ _ (HCD.out _ HC0.out) | exact HCD.out _ (HCA.out _ _ (by assumption)) | exact HCA.out _ _ (HCS.out _ _ HC0.out (by assumption)) | exact HCA.out _ _ (HCS.out _ _ (HCD.out _ HC0.out) (by assumption)) | exact HCX.out _ _ _ _ (Nat.le_refl _) (by assumption) | exact HCX.out _ _ _ _ (Nat.le_refl _) (HCS.out _ _ (HCA.out _ _ HC0.out) (by assumption)) | exact HCX.out _ _ _ _ (Nat.le_refl _) (HCS.out _ _ (HCD.out _ (HCA.out _ _ HC0.out)) (by assumption)) | assumption) (first | (go_at_call 124; (with_reducible refine (cP.out _ (HB1.out.trans ((HCL.out _ (by first | assumption | exact HCD.out _ (by assumption) | exact HC0.out | exact HCD.out _ HC0.out)).mono HB1.out.size))).mono ?_); rintro e w4 ⟨rfl, hb4⟩))
    have HB4 := Lib.hid (HCL.out w4 (by assumption))
    have HP4 := Lib.hid (HP1.out.below HB4.out)
    have HBW := Lib.hid (HBW1.out.trans (HB4.out.mono HBW1.out.size))
    have HB14 := Lib.hid (HB1.out.trans (HB4.out.mono HB1.out.size))
    have HM4 := Lib.hid ((HB4.out.block w.heap.size hbl1).trans HM1.out)
    obtain ⟨p0, p1, p2, p3, p4, p5, p6⟩ := box_mod HM4.out
    clear hb4 HC0 HCD HCS HCA HCX HCL n0 n1 n2 n3 n4 n5 n6 q3 hbp1 hbl1
    go_wp2_with fail
    go_ret
    exact ⟨rfl, fun e => absurd e (by decide), Kp.of_below HBW.out, HBW.out.mono HSB.out⟩
  · obtain ⟨f0, f1⟩ := HFI.out j rfl
    have hE0 := t4 f0
    subst hE0
    clear t4
    have t' : decide ((j : Int) < 0) = false := decide_eq_false (by omega)
    go_enter Tryz.func216, Tryz.ntmps216
    go_wp2_with fail
    refine (c1.out).mono ?_; rintro e w1 ⟨rfl, hb1⟩
    have HB1 := Lib.hid hb1
    have hM1 := (hb1.block w.heap.size (Array.getElem?_eq_some_iff.1 HM0.out).1).trans HM0.out
    have HM1 := Lib.hid hM1
    have HP1 := Lib.hid (HP0.out.below hb1)
    obtain ⟨n0, n1, n2, n3, n4, n5, n6⟩ := box_mod hM1
    obtain ⟨hbp1, _, _, _, q3, _⟩ := pl_cells HP1.out
    have HBW1 := Lib.hid (HB0.out.trans (hb1.mono HB0.out.size))
    have hbl1 : w.heap.size < w1.heap.size := (Array.getElem?_eq_some_iff.1 hM1).1
    clear hb1 hM1 m0 m1 m2 m3 m4 m5 m6
    have HC0 := Lib.hid (show Below w1.heap.size w1 w1 ∧ w1.cell? ⟨w.heap.size, 0, none⟩ = some (.string m.name) ∧ w1.cell? ⟨bp, 3, none⟩ = some (.slice A l.length c) from ⟨Below.refl _ _, by assumption, by assumption⟩)
    have HCD := Lib.hid (show ∀ W' : World, (Below w1.heap.size w1 W' ∧ W'.cell? ⟨w.heap.size, 0, none⟩ = some (.string m.name) ∧ W'.cell? ⟨bp, 3, none⟩ = some (.slice A l.length c)) → (Below w1.heap.size w1 W'.drew ∧ W'.drew.cell? ⟨w.heap.size, 0, none⟩ = some (.string m.name) ∧ W'.drew.cell? ⟨bp, 3, none⟩ = some (.slice A l.length c)) from fun W' ⟨b, a0, a1⟩ => ⟨b.drew, a0, a1⟩)
    have HCS := Lib.hid (show ∀ W' W2 : World, (Below w1.heap.size w1 W' ∧ W'.cell? ⟨w.heap.size, 0, none⟩ = some (.string m.name) ∧ W'.cell? ⟨bp, 3, none⟩ = some (.slice A l.length c)) → Below W'.heap.size W' W2 → (Below w1.heap.size w1 W2 ∧ W2.cell? ⟨w.heap.size, 0, none⟩ = some (.string m.name) ∧ W2.cell? ⟨bp, 3, none⟩ = some (.slice A l.length c)) from fun W' W2 ⟨b, a0, a1⟩ hb => have s := b.size; ⟨b.trans (hb.mono s), (hb.cell (by first | omega | (simp; omega) | (simp only [block_of_add]; omega))).trans a0, (hb.cell (by first | omega | (simp; omega) | (simp only [block_of_add]; omega))).trans a1⟩)
    have HCA := Lib.hid (show ∀ (W' : World) (o : Obj), (Below w1.heap.size w1 W' ∧ W'.cell? ⟨w.heap.size, 0, none⟩ = some (.string m.name) ∧ W'.cell? ⟨bp, 3, none⟩ = some (.slice A l.length c)) → (Below w1.heap.size w1 (W'.alloc o) ∧ (W'.alloc o).cell? ⟨w.heap.size, 0, none⟩ = some (.string m.name) ∧ (W'.alloc o).cell? ⟨bp, 3, none⟩ = some (.slice A l.length c)) from fun W' o hc => HCS.out W' (W'.alloc o) hc ((Below.refl _ _).alloc (Nat.le_refl _) o))
    have HCX := Lib.hid (show ∀ (W' : World) (bX oX : Nat) (vX : Value), w1.heap.size ≤ bX → (Below w1.heap.size w1 W' ∧ W'.cell? ⟨w.heap.size, 0, none⟩ = some (.string m.name) ∧ W'.cell? ⟨bp, 3, none⟩ = some (.slice A l.length c)) → (Below w1.heap.size w1 (W'.setCell ⟨bX, oX, none⟩ vX) ∧ (W'.setCell ⟨bX, oX, none⟩ vX).cell? ⟨w.heap.size, 0, none⟩ = some (.string m.name) ∧ (W'.setCell ⟨bX, oX, none⟩ vX).cell? ⟨bp, 3, none⟩ = some (.slice A l.length c)) from fun W' bX oX vX hbX ⟨b, a0, a1⟩ => ⟨b.setCell (p := ⟨bX, oX, none⟩) hbX vX, (((Below.refl _ _).setCell (p := ⟨bX, oX, none⟩) hbX vX).cell (by first | omega | (simp; omega) | (simp only [block_of_add]; omega))).trans a0, (((Below.refl _ _).setCell (p := ⟨bX, oX, none⟩) hbX vX).cell (by first | omega | (simp; omega) | (simp only [block_of_add]; omega))).trans a1⟩)
    have HCL := Lib.hid (show ∀ W' : World, (Below w1.heap.size w1 W' ∧ W'.cell? ⟨w.heap.size, 0, none⟩ = some (.string m.name) ∧ W'.cell? ⟨bp, 3, none⟩ = some (.slice A l.length c)) → Below w1.heap.size w1 W' from fun W' hc => hc.1)
    go_wp2_with fail
    go_region_held3 (fun W' => Below w1.heap.size w1 W' ∧ W'.cell? ⟨w.heap.size, 0, none⟩ = some (.string m.name) ∧ W'.cell? ⟨bp, 3, none⟩ = some (.slice A l.length c)) (first | exact HC0.out | exact HCD.out _ HC0.out | exact HCS.out _ _ (by assumption) (by assumption) | exact HCS.out _ _ HC0.out (by assumption) | exact HCS.out _ _ (HCD.out _ HC0.out) (by assumption) | exact HCS.out _ _ (HCD.out _ (by assumption)) (by assumption) | exact HCD.out _ (by assumption) | exact HCA.out _ _ (by assumption) | exact HCA.out _ _ HC0.out | exact HCA.out _ _ (HCD.out _ HC0.out) | exact HCD.out _ (HCA.out _ _ (by assumption)) | exact HCA.out _ _ (HCS.out _ _ HC0.out (by assumption)) | exact HCA.out _ _ (HCS.out _ _ (HCD.out _ HC0.out) (by assumption)) | exact HCX.out _ _ _ _ (Nat.le_refl _) (by assumption) | exact HCX.out _ _ _ _ (Nat.le_refl _) (HCS.out _ _ (HCA.out _ _ HC0.out) (by assumption)) | exact HCX.out _ _ _ _ (Nat.le_refl _) (HCS.out _ _ (HCD.out _ (HCA.out _ _ HC0.out)) (by assumption)) | assumption) (first | (go_at_call 124; (with_reducible refine (cP.out _ (HB1.out.trans ((HCL.out _ (by first | assumption | exact HCD.out _ (by assumption) | exact HC0.out | exact HCD.out _ HC0.out)).mono HB1.out.size))).mono ?_); rintro e w4 ⟨rfl, hb4⟩))
    have HB4 := Lib.hid (HCL.out w4 (by assumption))
    have HP4 := Lib.hid (HP1.out.below HB4.out)
    have HBW := Lib.hid (HBW1.out.trans (HB4.out.mono HBW1.out.size))
    have HB14 := Lib.hid (HB1.out.trans (HB4.out.mono HB1.out.size))
    have HM4 := Lib.hid ((HB4.out.block w.heap.size hbl1).trans HM1.out)
    obtain ⟨p0, p1, p2, p3, p4, p5, p6⟩ := box_mod HM4.out
    clear hb4 HC0 HCD HCS HCA HCX HCL n0 n1 n2 n3 n4 n5 n6 q3 hbp1 hbl1
    have cT' := Lib.hid (cT.out w4 HB14.out j (by first | trivial | rfl))
    clear cT
    go_wp2_with fail
    refine (cT'.out).mono ?_; rintro e w5 ⟨rfl, ⟨A', c', hp5⟩, hk5, hb5⟩
    have HP5 := Lib.hid hp5
    have HM5 := Lib.hid (hk5 _ _ _ _ HM4.out (by decide))
    obtain ⟨r0, r1, r2, r3, r4, r5, r6⟩ := box_mod HM5.out
    have HK5 := Lib.hid ((Kp.of_below HBW.out).trans hk5)
    have HB5 := Lib.hid ((HBW.out.mono HSB.out).trans hb5)
    clear hp5 hk5 hb5 p0 p1 p2 p3 p4 p5 p6 cT'
    go_wp2_with fail
    refine (cM.out _).mono ?_; rintro e w6 ⟨rfl, hb6⟩
    have HP6 := Lib.hid (HP5.out.below hb6)
    have HM6 := Lib.hid ((hb6.block _ (Array.getElem?_eq_some_iff.1 HM5.out).1).trans HM5.out)
    have HK6 := Lib.hid (HK5.out.trans (Kp.of_below hb6))
    have HB6 := Lib.hid (HB5.out.trans (hb6.mono HP5.out.size))
    have hmn := HMN.out (by first | trivial | rfl)
    have cR' := Lib.hid (cR.out A' c' w6 fa (by omega) (by omega) HP6.out)
    rw [← HFR.out, t3] at cR'
    clear hb6 r0 r1 r2 r3 r4 r5 r6 hmn
    go_wp2_with fail
    refine (cR'.out).mono ?_; rintro e w7 ⟨rfl, hb7⟩
    have HP7 := Lib.hid (HP6.out.below hb7)
    have HM7 := Lib.hid ((hb7.block _ (Array.getElem?_eq_some_iff.1 HM6.out).1).trans HM6.out)
    obtain ⟨s0, s1, s2, s3, s4, s5, s6⟩ := box_mod HM7.out
    have HK7 := Lib.hid (HK6.out.trans (Kp.of_below hb7))
    have HB7 := Lib.hid (HB6.out.trans (hb7.mono HP6.out.size))
    clear hb7 cR'
    have cU' := Lib.hid (cU.out A' c' w7 (HMO.out w7 HB7.out) HP7.out (by first | trivial | rfl))
    go_wp2_with fail
    refine (cU'.out).mono ?_; rintro e w8 ⟨⟨u, rfl⟩, ⟨A8, c8, m8, hs8, hp8⟩, hk8, hb8⟩
    have HS8 := Lib.hid hs8
    have HP8 := Lib.hid hp8
    have HK8 := Lib.hid (HK7.out.trans hk8)
    have HB8 := Lib.hid (HB7.out.trans hb8)
    clear hs8 hp8 hk8 hb8
    go_wp2_with fail
    go_ret
    exact ⟨rfl, fun _ => ⟨A8, c8, withL R m8 fa, by rw [withL_bare, withL_bare, sameC_bare HS8.out], HP8.out⟩, HK8.out, HB8.out⟩
  · obtain ⟨f0, f1⟩ := HFI.out j rfl
    have t' : decide ((j : Int) < 0) = false := decide_eq_false (by omega)
    go_enter Tryz.func216, Tryz.ntmps216
    go_wp2_with fail
    refine (c1.out).mono ?_; rintro e w1 ⟨rfl, hb1⟩
    have HB1 := Lib.hid hb1
    have hM1 := (hb1.block w.heap.size (Array.getElem?_eq_some_iff.1 HM0.out).1).trans HM0.out
    have HM1 := Lib.hid hM1
    have HP1 := Lib.hid (HP0.out.below hb1)
    obtain ⟨n0, n1, n2, n3, n4, n5, n6⟩ := box_mod hM1
    obtain ⟨hbp1, _, _, _, q3, _⟩ := pl_cells HP1.out
    have HBW1 := Lib.hid (HB0.out.trans (hb1.mono HB0.out.size))
    have hbl1 : w.heap.size < w1.heap.size := (Array.getElem?_eq_some_iff.1 hM1).1
    clear hb1 hM1 m0 m1 m2 m3 m4 m5 m6
    have HC0 := Lib.hid (show Below w1.heap.size w1 w1 ∧ w1.cell? ⟨w.heap.size, 0, none⟩ = some (.string m.name) ∧ w1.cell? ⟨bp, 3, none⟩ = some (.slice A l.length c) from ⟨Below.refl _ _, by assumption, by assumption⟩)
    have HCD := Lib.hid (show ∀ W' : World, (Below w1.heap.size w1 W' ∧ W'.cell? ⟨w.heap.size, 0, none⟩ = some (.string m.name) ∧ W'.cell? ⟨bp, 3, none⟩ = some (.slice A l.length c)) → (Below w1.heap.size w1 W'.drew ∧ W'.drew.cell? ⟨w.heap.size, 0, none⟩ = some (.string m.name) ∧ W'.drew.cell? ⟨bp, 3, none⟩ = some (.slice A l.length c)) from fun W' ⟨b, a0, a1⟩ => ⟨b.drew, a0, a1⟩)
    have HCS := Lib.hid (show ∀ W' W2 : World, (Below w1.heap.size w1 W' ∧ W'.cell? ⟨w.heap.size, 0, none⟩ = some (.string m.name) ∧ W'.cell? ⟨bp, 3, none⟩ = some (.slice A l.length c)) → Below W'.heap.size W' W2 → (Below w1.heap.size w1 W2 ∧ W2.cell? ⟨w.heap.size, 0, none⟩ = some (.string m.name) ∧ W2.cell? ⟨bp, 3, none⟩ = some (.slice A l.length c)) from fun W' W2 ⟨b, a0, a1⟩ hb => have s := b.size; ⟨b.trans (hb.mono s), (hb.cell (by first | omega | (simp; omega) | (simp only [block_of_add]; omega))).trans a0, (hb.cell (by first | omega | (simp; omega) | (simp only [block_of_add]; omega))).trans a1⟩)
    have HCA := Lib.hid (show ∀ (W' : World) (o : Obj), (Below w1.heap.size w1 W' ∧ W'.cell? ⟨w.heap.size, 0, none⟩ = some (.string m.name) ∧ W'.cell? ⟨bp, 3, none⟩ = some (.slice A l.length c)) → (Below w1.heap.size w1 (W'.alloc o) ∧ (W'.alloc o).cell? ⟨w.heap.size, 0, none⟩ = some (.string m.name) ∧ (W'.alloc o).cell? ⟨bp, 3, none⟩ = some (.slice A l.length c)) from fun W' o hc => HCS.out W' (W'.alloc o) hc ((Below.refl _ _).alloc (Nat.le_refl _) o))
    have HCX := Lib.hid (show ∀ (W' : World) (bX oX : Nat) (vX : Value), w1.heap.size ≤ bX → (Below w1.heap.size w1 W' ∧ W'.cell? ⟨w.heap.size, 0, none⟩ = some (.string m.name) ∧ W'.cell? ⟨bp, 3, none⟩ = some (.slice A l.length c)) → (Below w1.heap.size w1 (W'.setCell ⟨bX, oX, none⟩ vX) ∧ (W'.setCell ⟨bX, oX, none⟩ vX).cell? ⟨w.heap.size, 0, none⟩ = some (.string m.name) ∧ (W'.setCell ⟨bX, oX, none⟩ vX).cell? ⟨bp, 3, none⟩ = some (.slice A l.length c)) from fun W' bX oX vX hbX ⟨b, a0, a1⟩ => ⟨b.setCell (p := ⟨bX, oX, none⟩) hbX vX, (((Below.refl _ _).setCell (p := ⟨bX, oX, none⟩) hbX vX).cell (by first | omega | (simp; omega) | (simp only [block_of_add]; omega))).trans a0, (((Below.refl _ _).setCell (p := ⟨bX, oX, none⟩) hbX vX).cell (by first | omega | (simp; omega) | (simp only [block_of_add]; omega))).trans a1⟩)
    have HCL := Lib.hid (show ∀ W' : World, (Below w1.heap.size w1 W' ∧ W'.cell? ⟨w.heap.size, 0, none⟩ = some (.string m.name) ∧ W'.cell? ⟨bp, 3, none⟩ = some (.slice A l.length c)) → Below w1.heap.size w1 W' from fun W' hc => hc.1)
    go_wp2_with fail
    go_region_held3 (fun W' => Below w1.heap.size w1 W' ∧ W'.cell? ⟨w.heap.size, 0, none⟩ = some (.string m.name) ∧ W'.cell? ⟨bp, 3, none⟩ = some (.slice A l.length c)) (first | exact HC0.out | exact HCD.out _ HC0.out | exact HCS.out _ _ (by assumption) (by assumption) | exact HCS.out _ _ HC0.out (by assumption) | exact HCS.out _ _ (HCD.out _ HC0.out) (by assumption) | exact HCS.out _ _ (HCD.out _ (by assumption)) (by assumption) | exact HCD.out _ (by assumption) | exact HCA.out _ _ (by assumption) | exact HCA.out _ _ HC0.out | exact HCA.out _ _ (HCD.out _ HC0.out) | exact HCD.out _ (HCA.out _ _ (by assumption)) | exact HCA.out _ _ (HCS.out _ _ HC0.out (by assumption)) | exact HCA.out _ _ (HCS.out _ _ (HCD.out _ HC0.out) (by assumption)) | exact HCX.out _ _ _ _ (Nat.le_refl _) (by assumption) | exact HCX.out _ _ _ _ (Nat.le_refl _) (HCS.out _ _ (HCA.out _ _ HC0.out) (by assumption)) | exact HCX.out _ _ _ _ (Nat.le_refl _) (HCS.out _ _ (HCD.out _ (HCA.out _ _ HC0.out)) (by assumption)) | assumption) (first | (go_at_call 124; (with_reducible refine (cP.out _ (HB1.out.trans ((HCL.out _ (by first | assumption | exact HCD.out _ (by assumption) | exact HC0.out | exact HCD.out _ HC0.out)).mono HB1.out.size))).mono ?_); rintro e w4 ⟨rfl, hb4⟩))
    have HB4 := Lib.hid (HCL.out w4 (by assumption))
    have HP4 := Lib.hid (HP1.out.below HB4.out)
    have HBW := Lib.hid (HBW1.out.trans (HB4.out.mono HBW1.out.size))
    have HB14 := Lib.hid (HB1.out.trans (HB4.out.mono HB1.out.size))
    have HM4 := Lib.hid ((HB4.out.block w.heap.size hbl1).trans HM1.out)
    obtain ⟨p0, p1, p2, p3, p4, p5, p6⟩ := box_mod HM4.out
    clear hb4 HC0 HCD HCS HCA HCX HCL n0 n1 n2 n3 n4 n5 n6 q3 hbp1 hbl1
    have cT' := Lib.hid (cT.out w4 HB14.out j (by first | trivial | rfl))
    clear cT
    go_wp2_with fail
    refine (cT'.out).mono ?_; rintro e w5 ⟨rfl, ⟨A', c', hp5⟩, hk5, hb5⟩
    have HP5 := Lib.hid hp5
    have HM5 := Lib.hid (hk5 _ _ _ _ HM4.out (by decide))
    obtain ⟨r0, r1, r2, r3, r4, r5, r6⟩ := box_mod HM5.out
    have HK5 := Lib.hid ((Kp.of_below HBW.out).trans hk5)
    have HB5 := Lib.hid ((HBW.out.mono HSB.out).trans hb5)
    clear hp5 hk5 hb5 p0 p1 p2 p3 p4 p5 p6 cT'
    go_wp2_with fail
    refine (cM.out _).mono ?_; rintro e w6 ⟨rfl, hb6⟩
    have HP6 := Lib.hid (HP5.out.below hb6)
    have HM6 := Lib.hid ((hb6.block _ (Array.getElem?_eq_some_iff.1 HM5.out).1).trans HM5.out)
    have HK6 := Lib.hid (HK5.out.trans (Kp.of_below hb6))
    have HB6 := Lib.hid (HB5.out.trans (hb6.mono HP5.out.size))
    have hmn := HMN.out (by first | trivial | rfl)
    have cR' := Lib.hid (cR.out A' c' w6 fa (by omega) (by omega) HP6.out)
    rw [← HFR.out, t3] at cR'
    clear hb6 r0 r1 r2 r3 r4 r5 r6 hmn
    go_wp2_with fail
    refine (cR'.out).mono ?_; rintro e w7 ⟨rfl, hb7⟩
    have HP7 := Lib.hid (HP6.out.below hb7)
    have HM7 := Lib.hid ((hb7.block _ (Array.getElem?_eq_some_iff.1 HM6.out).1).trans HM6.out)
    obtain ⟨s0, s1, s2, s3, s4, s5, s6⟩ := box_mod HM7.out
    have HK7 := Lib.hid (HK6.out.trans (Kp.of_below hb7))
    have HB7 := Lib.hid (HB6.out.trans (hb7.mono HP6.out.size))
    clear hb7 cR'
    have cF' := Lib.hid (cF.out A' c' w7 (HMO.out w7 HB7.out) HP7.out (by first | trivial | rfl))
    clear cF
    go_wp2_with fail
    refine (cF'.out).mono ?_; rintro e w8 hd
    have HD := Lib.hid (PDone.after HK7.out HB7.out _ _ hd)
    obtain ⟨rfl, _⟩ := hd
    go_wp2_with fail
    go_ret
    exact HD.out

end Go.Proofs.YtjiedaialianmaaGreat
end
