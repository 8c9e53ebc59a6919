import Derived.Test.YtjnfemcfohflnaaResPure
/- Plain Lean: runs of sectors that are free (chapter F). No program in sight. -/
open Go
namespace Go.Proofs.Ytjnfemcfohflnaa

structure Run where
  first : Int
  many : Int
def endOf (x : Plc) : Int := x.first + manyOf x.m
def gapRun (a b : Int) : List Run := if a < b then [⟨a, b - a⟩] else []
def runsFrom : Int → List Plc → List Run
  | a, [] => gapRun a 16
  | a, x :: l => gapRun a x.first ++ runsFrom (endOf x) l
def runsOf (l : List Plc) : List Run := runsFrom 0 l
def adjErr : List Plc → Int
  | x :: y :: l => if y.first < endOf x then 4 else adjErr (y :: l)
  | _ => 0
def adjFrom (l : List Plc) (j : Nat) : Int := adjErr (l.drop (j - 1))
section
variable {l : List Plc} {j : Nat}
theorem adjFrom_end (h : ¬ j < l.length) : adjFrom l j = 0 := by
  unfold adjFrom
  by_cases h1 : j - 1 < l.length
  · rw [List.drop_eq_getElem_cons h1, List.drop_eq_nil_of_le (by omega)]; rfl
  · rw [List.drop_eq_nil_of_le (by omega)]; rfl
theorem drop_two (h : j < l.length) (h1 : 1 ≤ j) : l.drop (j - 1) = l[j - 1] :: l[j] :: l.drop (j + 1) := by
  rw [List.drop_eq_getElem_cons (show j - 1 < l.length by omega), show j - 1 + 1 = j by omega, List.drop_eq_getElem_cons h]
theorem adjFrom_bad (h : j < l.length) (h1 : 1 ≤ j) (hb : l[j].first < endOf l[j - 1]) : adjFrom l j = 4 := by
  unfold adjFrom
  rw [drop_two h h1]
  unfold adjErr
  rw [if_pos hb]
theorem adjFrom_next (h : j < l.length) (h1 : 1 ≤ j) (hb : ¬ l[j].first < endOf l[j - 1]) : adjFrom l (j + 1) = adjFrom l j := by
  have e : adjFrom l j = adjErr (l[j] :: l.drop (j + 1)) := by
    unfold adjFrom
    rw [drop_two h h1, adjErr, if_neg hb]
  rw [e]
  unfold adjFrom
  rw [show j + 1 - 1 = j by omega, List.drop_eq_getElem_cons h]
theorem adjFrom_one : adjFrom l 1 = adjErr l := rfl
end
def regErr (l : List Plc) : Int := if modsAll regQ l ≠ 0 then modsAll regQ l else adjErr l
theorem regErr_zero {l : List Plc} (h : regErr l = 0) : modsAll regQ l = 0 ∧ adjErr l = 0 := by
  unfold regErr at h
  by_cases h1 : modsAll regQ l = 0
  · rw [if_neg (by omega)] at h; exact ⟨h1, h⟩
  · rw [if_pos h1] at h; exact absurd h h1

/-- they stand in order from sector a on, in sectors 0 to 15 -/
def Row16 : Int → List Plc → Prop
  | a, [] => a ≤ 16
  | a, x :: l => a ≤ x.first ∧ 1 ≤ manyOf x.m ∧ manyOf x.m ≤ 4 ∧ Row16 (endOf x) l
theorem Row16.le : ∀ {l : List Plc} {a : Int}, Row16 a l → a ≤ 16
  | [], _, h => h
  | x :: l, a, ⟨h1, h2, _, h4⟩ => by have := h4.le; unfold endOf at this; omega
theorem many_ok {m : Mod} (h : modErr m = 0) : 1 ≤ manyOf m ∧ manyOf m ≤ 4 := by
  obtain ⟨_, _, h1, h2, _⟩ := modErr_facts h
  unfold manyOf
  omega
theorem row16_of : ∀ {l : List Plc} {a : Int}, a ≤ 16 → (∀ x ∈ l, modErr x.m = 0 ∧ regQ x = true) → adjErr l = 0 → (∀ x ∈ l.head?, a ≤ x.first) → Row16 a l
  | [], a, ha, _, _, _ => ha
  | x :: l, a, ha, h, h2, h3 => by
    obtain ⟨hx1, hx2⟩ := h x (by simp)
    simp only [regQ, Bool.and_eq_true, decide_eq_true_eq] at hx2
    obtain ⟨hm1, hm2⟩ := many_ok hx1
    refine ⟨h3 x (by simp), hm1, hm2, ?_⟩
    cases l with
    | nil => unfold Row16 endOf; omega
    | cons y l =>
      unfold adjErr at h2
      split at h2
      · cases h2
      · refine row16_of (by unfold endOf; omega) (fun z hz => h z (List.mem_cons_of_mem _ hz)) h2 (fun z hz => ?_)
        simp only [List.head?_cons, Option.mem_def, Option.some.injEq] at hz
        subst hz; omega
theorem reg_row {l : List Plc} (h : regErr l = 0) : l.length ≤ 8 ∧ (∀ x ∈ l, modErr x.m = 0 ∧ regQ x = true) ∧ Row16 0 l := by
  obtain ⟨h1, h2⟩ := regErr_zero h
  obtain ⟨h3, h4⟩ := modsAll_ok h1
  refine ⟨h3, h4, row16_of (by omega) h4 h2 (fun x hx => ?_)⟩
  have hm : x ∈ l := by
    cases l with
    | nil => simp at hx
    | cons y l => simp only [List.head?_cons, Option.mem_def, Option.some.injEq] at hx; subst hx; simp
  have := (h4 x hm).2
  simp only [regQ, Bool.and_eq_true, decide_eq_true_eq] at this
  omega
theorem Row16.adj : ∀ {l : List Plc} {a : Int}, Row16 a l → adjErr l = 0
  | [], _, _ => rfl
  | [_], _, _ => rfl
  | x :: y :: l, a, ⟨_, _, _, h⟩ => by
    unfold adjErr
    rw [if_neg (by have := h.1; omega)]
    exact Row16.adj h
theorem modsErr_zero {q : Plc → Bool} : ∀ {l : List Plc}, (∀ x ∈ l, modErr x.m = 0 ∧ q x = true) → modsErr q l = 0
  | [], _ => rfl
  | x :: l, h => by
    obtain ⟨h1, h2⟩ := h x (by simp)
    unfold modsErr
    rw [if_neg (by omega), if_neg (by simp [h2])]
    exact modsErr_zero fun y hy => h y (List.mem_cons_of_mem _ hy)
theorem reg_of {l : List Plc} (h1 : l.length ≤ 8) (h2 : ∀ x ∈ l, modErr x.m = 0 ∧ regQ x = true) (h3 : Row16 0 l) : regErr l = 0 := by
  have e : modsAll regQ l = 0 := by
    unfold modsAll
    rw [if_neg (by omega), modsErr_zero h2]
  unfold regErr
  rw [if_neg (by omega)]
  exact h3.adj
theorem Row16.lower {l : List Plc} {a b : Int} (h : Row16 a l) (hb : b ≤ a) : Row16 b l := by
  cases l with
  | nil => exact Int.le_trans hb h
  | cons x l => exact ⟨by have := h.1; omega, h.2⟩
theorem Row16.erase : ∀ {l : List Plc} {a : Int} (j : Nat), Row16 a l → Row16 a (l.eraseIdx j)
  | [], _, _, h => by simpa using h
  | x :: l, a, 0, ⟨h1, h2, _, h4⟩ => by
    simp only [List.eraseIdx_cons_zero]
    exact h4.lower (by unfold endOf; omega)
  | x :: l, a, j + 1, ⟨h1, h2, h3, h4⟩ => by
    simp only [List.eraseIdx_cons_succ]
    exact ⟨h1, h2, h3, h4.erase j⟩
theorem regErr_erase {l : List Plc} (h : regErr l = 0) (j : Nat) : regErr (l.eraseIdx j) = 0 := by
  obtain ⟨h1, h2, h3⟩ := reg_row h
  refine reg_of (by have := List.length_eraseIdx_le l j; omega) (fun x hx => h2 x (List.mem_of_mem_eraseIdx hx)) (h3.erase j)

/-! ### sectors, one by one -/
def usedIn (l : List Plc) (i : Nat) : Bool := l.any fun x => decide (x.first ≤ i) && decide ((i : Int) < endOf x)
theorem usedIn_below : ∀ {l : List Plc} {a : Int} {i : Nat}, Row16 a l → (i : Int) < a → usedIn l i = false
  | [], _, _, _, _ => rfl
  | x :: l, a, i, ⟨h1, h2, h3, h4⟩, hi => by
    have := usedIn_below (i := i) h4 (by unfold endOf; omega)
    unfold usedIn at this ⊢
    rw [List.any_cons, this]
    simp; omega
def bump (out : List Run) : List Run := match out.getLast? with
  | none => out
  | some r => out.dropLast ++ [⟨r.first, r.many + 1⟩]
theorem bump_last (pre : List Run) (r : Run) : bump (pre ++ [r]) = pre ++ [⟨r.first, r.many + 1⟩] := by
  unfold bump
  simp
def freeUpto (u : Nat → Bool) : Nat → List Run
  | 0 => []
  | i + 1 => if u i = true then freeUpto u i else if 0 < i ∧ u (i - 1) = false then bump (freeUpto u i) else freeUpto u i ++ [⟨i, 1⟩]
theorem freeUpto_last {u : Nat → Bool} : ∀ {i : Nat}, 0 < i → u (i - 1) = false → ∃ (pre : List Run) (r : Run), freeUpto u i = pre ++ [r] ∧ 0 ≤ r.many ∧ r.many ≤ (i : Int)
  | i + 1, _, h => by
    simp only [Nat.add_sub_cancel] at h
    by_cases h1 : 0 < i ∧ u (i - 1) = false
    · obtain ⟨pre, r, e, hr⟩ := freeUpto_last h1.1 h1.2
      refine ⟨pre, ⟨r.first, r.many + 1⟩, ?_, by simp; omega⟩
      rw [freeUpto, if_neg (by simp [h]), if_pos h1, e, bump_last]
    · exact ⟨freeUpto u i, ⟨i, 1⟩, by rw [freeUpto, if_neg (by simp [h]), if_neg h1], by simp; omega⟩
theorem freeUpto_used {u : Nat → Bool} {i : Nat} (h : u i = true) : freeUpto u (i + 1) = freeUpto u i := by rw [freeUpto, if_pos h]
theorem freeUpto_new {u : Nat → Bool} {i : Nat} (h : u i = false) (h1 : ¬ (0 < i ∧ u (i - 1) = false)) : freeUpto u (i + 1) = freeUpto u i ++ [⟨i, 1⟩] := by rw [freeUpto, if_neg (by simp [h]), if_neg h1]
theorem freeUpto_more {u : Nat → Bool} {i : Nat} (h : u i = false) (h1 : 0 < i ∧ u (i - 1) = false) : freeUpto u (i + 1) = bump (freeUpto u i) := by rw [freeUpto, if_neg (by simp [h]), if_pos h1]
theorem freeUpto_gap {u : Nat → Bool} {a : Nat} (h0 : a = 0 ∨ u (a - 1) = true) : ∀ (n : Nat), (∀ i, a ≤ i → i < a + n → u i = false) → freeUpto u (a + n) = freeUpto u a ++ gapRun a ((a : Int) + n)
  | 0, _ => by simp [gapRun]
  | n + 1, h => by
    have ih := freeUpto_gap h0 n (fun i h1 h2 => h i h1 (by omega))
    have hu : u (a + n) = false := h _ (by omega) (by omega)
    rw [show a + (n + 1) = a + n + 1 by omega]
    by_cases hn : n = 0
    · subst hn
      have h1 : ¬ (0 < a + 0 ∧ u (a + 0 - 1) = false) := by
        rintro ⟨h1, h2⟩
        rcases h0 with h0 | h0
        · omega
        · simp only [Nat.add_zero] at h2; rw [h0] at h2; cases h2
      rw [freeUpto_new hu h1]
      simp [gapRun]
      rw [if_pos (by omega), show (a : Int) + 1 - a = 1 by omega]
    · have h1 : 0 < a + n ∧ u (a + n - 1) = false := ⟨by omega, h _ (by omega) (by omega)⟩
      rw [freeUpto_more hu h1, ih]
      unfold gapRun
      rw [if_pos (by omega), if_pos (by omega), bump_last]
      simp; omega
theorem freeUpto_full {u : Nat → Bool} {a : Nat} : ∀ (n : Nat), (∀ i, a ≤ i → i < a + n → u i = true) → freeUpto u (a + n) = freeUpto u a
  | 0, _ => rfl
  | n + 1, h => by
    rw [show a + (n + 1) = a + n + 1 by omega, freeUpto_used (h _ (by omega) (by omega))]
    exact freeUpto_full n fun i h1 h2 => h i h1 (by omega)
theorem freeUpto_runs (u : Nat → Bool) : ∀ (l : List Plc) (a : Nat), (∀ i, a ≤ i → u i = usedIn l i) → (a = 0 ∨ u (a - 1) = true) → Row16 a l → freeUpto u 16 = freeUpto u a ++ runsFrom a l
  | [], a, h, h0, hr => by
    have ha : (a : Int) ≤ 16 := hr
    have := freeUpto_gap h0 (16 - a) (fun i h1 h2 => (h i h1).trans rfl)
    rw [show a + (16 - a) = 16 by omega] at this
    rw [this, runsFrom]
    congr 2
    omega
  | x :: l, a, h, h0, hr => by
    have hle := hr.2.2.2.le
    obtain ⟨h1, h2, h3, h4⟩ := hr
    obtain ⟨b, hb⟩ : ∃ b : Nat, x.first = b := ⟨x.first.toNat, by omega⟩
    obtain ⟨c, hc⟩ : ∃ c : Nat, endOf x = c := ⟨(endOf x).toNat, by unfold endOf; omega⟩
    have hbc : b + manyOf x.m = c := by rw [← hc, ← hb]; rfl
    have hx : ∀ i : Nat, a ≤ i → u i = (decide (b ≤ i) && decide (i < c) || usedIn l i) := fun i hi => by
      rw [h i hi]; unfold usedIn; rw [List.any_cons, hb, hc]; simp
    have hbelow : ∀ i : Nat, i < c → usedIn l i = false := fun i hi => usedIn_below h4 (by omega)
    have g1 := freeUpto_gap h0 (b - a) (fun i hi1 hi2 => by rw [hx i hi1, hbelow i (by omega)]; simp; omega)
    rw [show a + (b - a) = b by omega] at g1
    have g2 := freeUpto_full (u := u) (a := b) (c - b) (fun i hi1 hi2 => by rw [hx i (by omega)]; simp; omega)
    rw [show b + (c - b) = c by omega] at g2
    have ih := freeUpto_runs u l c (fun i hi => by rw [hx i (by omega)]; simp; omega) (.inr (by rw [hx (c - 1) (by omega)]; simp; omega)) (by rw [← hc]; exact h4)
    rw [ih, g2, g1, runsFrom, hc, hb, List.append_assoc]
    congr 3
    omega
theorem freeUpto_runsOf {l : List Plc} (h : Row16 0 l) : freeUpto (usedIn l) 16 = runsOf l := by
  have := freeUpto_runs (usedIn l) l 0 (fun _ _ => rfl) (.inl rfl) h
  simpa [freeUpto, runsOf] using this

/-! ### sums -/
def sumRuns : List Run → Int
  | [] => 0
  | r :: l => r.many + sumRuns l
def sumMods : List Plc → Int
  | [] => 0
  | x :: l => manyOf x.m + sumMods l
theorem sumRuns_append : ∀ (l l' : List Run), sumRuns (l ++ l') = sumRuns l + sumRuns l'
  | [], l' => by simp [sumRuns]
  | r :: l, l' => by simp only [List.cons_append, sumRuns, sumRuns_append l l']; omega
theorem sumMods_append : ∀ (l l' : List Plc), sumMods (l ++ l') = sumMods l + sumMods l'
  | [], l' => by simp [sumMods]
  | r :: l, l' => by simp only [List.cons_append, sumMods, sumMods_append l l']; omega
theorem sumRuns_gap {a b : Int} (h : a ≤ b) : sumRuns (gapRun a b) = b - a := by
  unfold gapRun
  split
  · simp [sumRuns]
  · simp [sumRuns]; omega
theorem sum_all : ∀ {l : List Plc} {a : Int}, Row16 a l → sumRuns (runsFrom a l) + sumMods l = 16 - a
  | [], a, h => by rw [runsFrom, sumRuns_gap h]; simp [sumMods]
  | x :: l, a, ⟨h1, h2, h3, h4⟩ => by
    have := sum_all h4
    rw [runsFrom, sumRuns_append, sumRuns_gap h1, sumMods]
    unfold endOf at this ⊢
    omega
theorem sumMods_erase : ∀ {l : List Plc} {j : Nat} (h : j < l.length), sumMods (l.eraseIdx j) + manyOf l[j].m = sumMods l
  | x :: l, 0, _ => by simp [sumMods]; omega
  | x :: l, j + 1, h => by
    have := sumMods_erase (l := l) (j := j) (by simpa using h)
    simp only [List.eraseIdx_cons_succ, List.getElem_cons_succ, sumMods]
    omega

/-! ### runs rise -/
def Rise : Int → List Run → Prop
  | a, [] => a ≤ 17
  | a, r :: l => a ≤ r.first ∧ 1 ≤ r.many ∧ Rise (r.first + r.many + 1) l
theorem Rise.lower {l : List Run} {a b : Int} (h : Rise a l) (hb : b ≤ a) : Rise b l := by
  cases l with
  | nil => exact Int.le_trans hb h
  | cons x l => exact ⟨by have := h.1; omega, h.2⟩
theorem rise_gap {a b : Int} {l : List Run} (h : Rise (b + 1) l) (hab : a ≤ b) : Rise a (gapRun a b ++ l) := by
  unfold gapRun
  split
  · refine ⟨Int.le_refl _, by show (1 : Int) ≤ b - a; omega, ?_⟩
    show Rise (a + (b - a) + 1) l
    rw [show a + (b - a) + 1 = b + 1 by omega]; exact h
  · exact h.lower (by omega)
theorem rise_runs : ∀ {l : List Plc} {a : Int}, Row16 a l → Rise a (runsFrom a l)
  | [], a, h => by
    rw [runsFrom]
    have := rise_gap (a := a) (b := 16) (l := []) (show (16 : Int) + 1 ≤ 17 by omega) h
    simpa using this
  | x :: l, a, ⟨h1, h2, h3, h4⟩ => rise_gap ((rise_runs h4).lower (by unfold endOf; omega)) h1
theorem Rise.each : ∀ {l : List Run} {a : Int}, Rise a l → 0 ≤ a → ∀ j (h : j < l.length), 1 ≤ l[j].many ∧ a ≤ l[j].first ∧ l[j].first + l[j].many ≤ 16 ∧ (∀ i, (hi : i + 1 = j) → l[i].first + l[i].many < l[j].first)
  | r :: l, a, ⟨h1, h2, h3⟩, h0, 0, _ => by
    refine ⟨h2, h1, ?_, fun i hi => by omega⟩
    simp only [List.getElem_cons_zero]
    cases l with
    | nil => unfold Rise at h3; omega
    | cons y l =>
      have := Rise.each h3 (by omega) 0 (by simp)
      simp only [List.getElem_cons_zero] at this
      omega
  | r :: l, a, ⟨h1, h2, h3⟩, h0, j + 1, h => by
    have := Rise.each h3 (by omega) j (by simpa using h)
    simp only [List.getElem_cons_succ]
    refine ⟨this.1, by omega, this.2.2.1, fun i hi => ?_⟩
    cases i with
    | zero => obtain rfl : j = 0 := by omega
              simp only [List.getElem_cons_zero]; omega
    | succ i => simp only [List.getElem_cons_succ]; exact this.2.2.2 i (by omega)

/-! ### where there is room -/
def fitIn (many : Int) (l : List Run) : Int := match l.find? fun r => decide (many ≤ r.many) with
  | none => -1
  | some r => r.first
def firstOf (l : List Plc) (many : Int) : Int × Int :=
  if regErr l ≠ 0 then (0, regErr l) else if many < 1 ∨ 16 < many then (0, 3) else if fitIn many (runsOf l) < 0 then (0, 8) else (fitIn many (runsOf l), 0)
def clearAt (l : List Plc) (many p : Int) : Bool := l.all fun x => decide (endOf x ≤ p) || decide (p + many ≤ x.first)
theorem clear_cons {x : Plc} {l : List Plc} {many p : Int} : clearAt (x :: l) many p = ((decide (endOf x ≤ p) || decide (p + many ≤ x.first)) && clearAt l many p) := rfl
theorem clear_below : ∀ {l : List Plc} {a many p : Int}, Row16 a l → p + many ≤ a → clearAt l many p = true
  | [], _, _, _, _, _ => rfl
  | x :: l, a, many, p, ⟨h1, h2, h3, h4⟩, h => by
    rw [clear_cons, clear_below h4 (by unfold endOf; omega)]
    simp; omega
theorem fit_any {many : Int} (hm : 1 ≤ many) : ∀ {l : List Plc} {a : Int}, 0 ≤ a → Row16 a l →
    (fitIn many (runsFrom a l) = -1 ∧ ∀ p, a ≤ p → p ≤ 16 - many → clearAt l many p = false) ∨
    (a ≤ fitIn many (runsFrom a l) ∧ fitIn many (runsFrom a l) ≤ 16 - many ∧ clearAt l many (fitIn many (runsFrom a l)) = true ∧ ∀ p, a ≤ p → p < fitIn many (runsFrom a l) → clearAt l many p = false)
  | [], a, h0, h => by
    have ha : a ≤ 16 := h
    rw [runsFrom]
    unfold gapRun
    by_cases h1 : a < 16
    · rw [if_pos h1]
      by_cases h2 : many ≤ 16 - a
      · right
        have e : fitIn many [⟨a, 16 - a⟩] = a := by simp [fitIn, h2]
        rw [e]
        exact ⟨by omega, by omega, rfl, fun p h3 h4 => by omega⟩
      · left
        have e : fitIn many [⟨a, 16 - a⟩] = -1 := by simp [fitIn, h2]
        rw [e]
        exact ⟨rfl, fun p h3 h4 => by omega⟩
    · rw [if_neg h1]
      left
      exact ⟨rfl, fun p h3 h4 => by omega⟩
  | x :: l, a, h0, ⟨h1, h2, h3, h4⟩ => by
    rw [runsFrom]
    have he : endOf x = x.first + manyOf x.m := rfl
    have hle := h4.le
    by_cases hg : many ≤ x.first - a
    · right
      have e : fitIn many (gapRun a x.first ++ runsFrom (endOf x) l) = a := by
        unfold gapRun
        rw [if_pos (by omega)]
        simp [fitIn, hg]
      rw [e]
      refine ⟨by omega, by omega, ?_, fun p h3 h4 => by omega⟩
      rw [clear_cons, clear_below h4 (by omega)]
      simp; omega
    · have e : fitIn many (gapRun a x.first ++ runsFrom (endOf x) l) = fitIn many (runsFrom (endOf x) l) := by
        unfold gapRun
        split
        · simp [fitIn, hg]
        · rfl
      rw [e]
      have hno : ∀ p, a ≤ p → p < endOf x → clearAt (x :: l) many p = false := fun p hp1 hp2 => by
        rw [clear_cons]
        have : (decide (endOf x ≤ p) || decide (p + many ≤ x.first)) = false := by simp; omega
        rw [this]; rfl
      have hyes : ∀ p, endOf x ≤ p → clearAt (x :: l) many p = clearAt l many p := fun p hp => by
        rw [clear_cons]
        simp [hp]
      rcases fit_any hm (a := endOf x) (by omega) h4 with ⟨e1, e2⟩ | ⟨e1, e2, e3, e4⟩
      · left
        refine ⟨e1, fun p hp1 hp2 => ?_⟩
        by_cases hp : p < endOf x
        · exact hno p hp1 hp
        · rw [hyes p (by omega)]; exact e2 p (by omega) hp2
      · right
        refine ⟨by omega, e2, by rw [hyes _ e1]; exact e3, fun p hp1 hp2 => ?_⟩
        by_cases hp : p < endOf x
        · exact hno p hp1 hp
        · rw [hyes p (by omega)]; exact e4 p (by omega) hp2
/-- 'no lesser place would do' from a place on -/
theorem firstOf_clear {l : List Plc} {many : Int} (h : regErr l = 0) (h1 : 1 ≤ many) {p : Int} (hp : 0 ≤ p) (hp2 : p ≤ 16 - many) (hc : clearAt l many p = true) (hno : ∀ q, 0 ≤ q → q < p → clearAt l many q = false) : firstOf l many = (p, 0) := by
  have hr := (reg_row h).2.2
  have e : fitIn many (runsOf l) = p := by
    rcases fit_any h1 (Int.le_refl 0) hr with ⟨_, e2⟩ | ⟨e1, e2, e3, e4⟩
    · rw [e2 p hp hp2] at hc; cases hc
    · unfold runsOf
      rcases Int.lt_trichotomy (fitIn many (runsFrom 0 l)) p with h5 | h5 | h5
      · rw [hno _ e1 h5] at e3; cases e3
      · exact h5
      · rw [e4 p hp h5] at hc; cases hc
  unfold firstOf
  rw [if_neg (by omega), if_neg (by omega), e, if_neg (by omega)]
theorem firstOf_none {l : List Plc} {many : Int} (h : regErr l = 0) (hno : 1 ≤ many → ∀ q, 0 ≤ q → q ≤ 16 - many → clearAt l many q = false) : (firstOf l many).2 = 8 ∨ (firstOf l many).2 = 3 := by
  have hr := (reg_row h).2.2
  unfold firstOf
  rw [if_neg (by omega)]
  by_cases h1 : many < 1 ∨ 16 < many
  · rw [if_pos h1]; exact .inr rfl
  · rw [if_neg h1]
    rcases fit_any (many := many) (by omega) (Int.le_refl 0) hr with ⟨e1, _⟩ | ⟨e1, e2, e3, _⟩
    · unfold runsOf; rw [if_pos (by rw [e1]; omega)]; exact .inl rfl
    · rw [hno (by omega) _ e1 e2] at e3; cases e3

end Go.Proofs.Ytjnfemcfohflnaa
