import Derived.Below
import Derived.Test.YtjnfemcfohflnaaPure
/- Plain Lean: who needs whom (chapter E): a walk in depth, and a table closed phase by phase, tell one and the same. No program in sight. -/
open Go
namespace Go.Proofs.Ytjnfemcfohflnaa
namespace Gr

section Walk
variable {N : Type} [DecidableEq N]

/-- one step in `all` -/
def Step (all : List N) (r : N → N → Bool) (x y : N) : Prop := y ∈ all ∧ r x y = true

/-- walker.walk from a, with fuel; m: who is met -/
def visit (all : List N) (r : N → N → Bool) : Nat → List N → N → List N
  | 0, m, _ => m
  | f + 1, m, a => all.foldl (fun m b => if b ∉ m ∧ r a b = true then visit all r f (b :: m) b else m) m

def unmet (all m : List N) : Nat := (all.filter (fun x => decide (x ∉ m))).length

theorem unmet_le {m m' : List N} (h : ∀ x, x ∈ m → x ∈ m') : ∀ (all : List N), unmet all m' ≤ unmet all m
  | [] => Nat.le_refl _
  | a :: l => by
    have ih := unmet_le h l
    unfold unmet at ih ⊢
    by_cases c : a ∈ m'
    · by_cases d : a ∈ m
      · simpa [List.filter_cons, c, d] using ih
      · simp only [List.filter_cons, c, d, not_true_eq_false, not_false_eq_true, decide_true, decide_false, if_true, Bool.false_eq_true, if_false, List.length_cons]
        omega
    · have d : a ∉ m := fun e => c (h a e)
      simp only [List.filter_cons, c, d, not_false_eq_true, decide_true, if_true, List.length_cons]
      omega

theorem unmet_lt {m : List N} {b : N} (hm : b ∉ m) : ∀ {all : List N}, b ∈ all → unmet all (b :: m) < unmet all m
  | a :: l, hb => by
    have le : unmet l (b :: m) ≤ unmet l m := unmet_le (fun x hx => List.mem_cons_of_mem _ hx) l
    by_cases e : a = b
    · subst e
      unfold unmet at le ⊢
      simp only [List.filter_cons, hm, List.mem_cons, true_or, not_true_eq_false, not_false_eq_true, decide_true, decide_false, if_true, Bool.false_eq_true, if_false, List.length_cons] at le ⊢
      omega
    · have hb' : b ∈ l := by
        rcases List.mem_cons.1 hb with h | h
        · exact absurd h.symm e
        · exact h
      have ih := unmet_lt hm hb'
      unfold unmet at ih ⊢
      by_cases c : a ∈ m
      · simpa [List.filter_cons, c, e] using ih
      · have c' : a ∉ b :: m := by simp [c, e]
        simp only [List.filter_cons, c, c', not_false_eq_true, decide_true, if_true, List.length_cons]
        omega

/-- what a walk from a leaves, that began with m and has looked at the ones of l -/
structure Met (all : List N) (r : N → N → Bool) (m : List N) (a : N) (l M : List N) : Prop where
  sub : ∀ x, x ∈ m → x ∈ M
  sound : ∀ x, x ∈ M → x ∈ m ∨ Relation.TransGen (Step all r) a x
  here : ∀ b, b ∈ l → r a b = true → b ∈ M
  closed : ∀ x, x ∈ M → x ∉ m → ∀ y, Step all r x y → y ∈ M

theorem fold_met {all : List N} {r : N → N → Bool} {f : Nat} {m : List N} {a : N}
    (ih : ∀ m b, unmet all m + 1 ≤ f → Met all r m b all (visit all r f m b)) (hf : unmet all m ≤ f) :
    ∀ (l p M : List N), (∀ x, x ∈ l → x ∈ all) → Met all r m a p M →
      Met all r m a (p ++ l) (l.foldl (fun m b => if b ∉ m ∧ r a b = true then visit all r f (b :: m) b else m) M)
  | [], p, M, _, h => by simpa using h
  | b :: l, p, M, hl, h => by
    have e : p ++ b :: l = (p ++ [b]) ++ l := by simp
    rw [e, List.foldl_cons]
    apply fold_met ih hf l (p ++ [b]) _ (fun x hx => hl x (List.mem_cons_of_mem _ hx))
    by_cases c : b ∉ M ∧ r a b = true
    · rw [if_pos c]
      have hb : b ∈ all := hl b List.mem_cons_self
      have lt := unmet_lt c.1 hb
      have le := unmet_le h.sub all
      have k := ih (b :: M) b (by omega)
      have ab : Relation.TransGen (Step all r) a b := .single ⟨hb, c.2⟩
      refine ⟨fun x hx => k.sub x (List.mem_cons_of_mem _ (h.sub x hx)), fun x hx => ?_, fun x hx hr => ?_, fun x hx hn y hy => ?_⟩
      · rcases k.sound x hx with q | q
        · rcases List.mem_cons.1 q with rfl | q
          · exact Or.inr ab
          · exact h.sound x q
        · exact Or.inr (Relation.TransGen.trans ab q)
      · rcases List.mem_append.1 hx with q | q
        · exact k.sub x (List.mem_cons_of_mem _ (h.here x q hr))
        · rw [List.mem_singleton.1 q]; exact k.sub b List.mem_cons_self
      · by_cases q : x ∈ M
        · exact k.sub y (List.mem_cons_of_mem _ (h.closed x q hn y hy))
        · by_cases e : x = b
          · subst e; exact k.here y hy.1 hy.2
          · exact k.closed x hx (by simp [q, e]) y hy
    · rw [if_neg c]
      refine ⟨h.sub, h.sound, fun x hx hr => ?_, h.closed⟩
      rcases List.mem_append.1 hx with q | q
      · exact h.here x q hr
      · rw [List.mem_singleton.1 q] at hr ⊢
        by_cases d : b ∈ M
        · exact d
        · exact absurd ⟨d, hr⟩ c

theorem visit_met (all : List N) (r : N → N → Bool) : ∀ (f : Nat) (m : List N) (a : N), unmet all m + 1 ≤ f → Met all r m a all (visit all r f m a)
  | 0, _, _, h => by omega
  | f + 1, m, a, h => by
    have k := fold_met (all := all) (r := r) (f := f) (m := m) (a := a) (fun m b hb => visit_met all r f m b hb) (by omega) all [] m (fun _ hx => hx)
      ⟨fun _ hx => hx, fun _ hx => Or.inl hx, fun _ hx => absurd hx (List.not_mem_nil), fun _ hx hn => absurd hx hn⟩
    simpa [visit] using k

/-- who is met by a walk from a that begins with none: just those that are come to -/
theorem visit_iff {all : List N} {r : N → N → Bool} {f : Nat} {a : N} (hf : all.length + 1 ≤ f) (x : N) :
    x ∈ visit all r f [] a ↔ Relation.TransGen (Step all r) a x := by
  have hu : unmet all [] ≤ all.length := List.length_filter_le _ _
  have k := visit_met all r f [] a (by omega)
  constructor
  · intro h
    rcases k.sound x h with q | q
    · exact absurd q List.not_mem_nil
    · exact q
  · intro h
    induction h with
    | single s => exact k.here _ s.1 s.2
    | tail _ s ih => exact k.closed _ ih List.not_mem_nil _ s

end Walk

/-! ### the document's table, closed phase by phase -/

/-- a way from i to k, between them only numbers below m -/
inductive Way (d : Nat → Nat → Bool) (m : Nat) : Nat → Nat → Prop
  | base {i k} : d i k = true → Way d m i k
  | thru {i j k} : j < m → Way d m i j → Way d m j k → Way d m i k

theorem Way.up {d : Nat → Nat → Bool} {m n i k : Nat} (h : m ≤ n) (w : Way d m i k) : Way d n i k := by
  induction w with
  | base e => exact .base e
  | thru hj _ _ a b => exact .thru (by omega) a b

theorem Way.zero {d : Nat → Nat → Bool} {i k : Nat} (w : Way d 0 i k) : d i k = true := by
  cases w with
  | base e => exact e
  | thru hj _ _ => omega

theorem Way.succ {d : Nat → Nat → Bool} {m i k : Nat} (w : Way d (m + 1) i k) : Way d m i k ∨ (Way d m i m ∧ Way d m m k) := by
  induction w with
  | base e => exact Or.inl (.base e)
  | @thru i j k hj _ _ a b =>
    by_cases e : j = m
    · subst e
      refine Or.inr ⟨?_, ?_⟩
      · rcases a with a | a
        · exact a
        · exact a.1
      · rcases b with b | b
        · exact b
        · exact b.2
    · have hj' : j < m := by omega
      rcases a with a | ⟨a, a'⟩ <;> rcases b with b | ⟨b, b'⟩
      · exact Or.inl (.thru hj' a b)
      · exact Or.inr ⟨.thru hj' a b, b'⟩
      · exact Or.inr ⟨a, .thru hj' a' b⟩
      · exact Or.inr ⟨a, b'⟩

/-- a table: row i, place k -/
abbrev Tab := List (List Bool)
def Tab.at (t : Tab) (i k : Nat) : Bool := (t.getD i []).getD k false
/-- the table's one deed -/
def Tab.fill (m i k : Nat) (t : Tab) : Tab := t.set i ((t.getD i []).set k (t.at i k || t.at i m && t.at m k))
def Tab.row (n m i : Nat) (t : Tab) : Tab := (List.range n).foldl (fun t k => Tab.fill m i k t) t
def Tab.phase (n m : Nat) (t : Tab) : Tab := (List.range n).foldl (fun t i => Tab.row n m i t) t
def Tab.all (n : Nat) (t : Tab) : Tab := (List.range n).foldl (fun t m => Tab.phase n m t) t

/-- n rows of n places -/
def Tab.sq (n : Nat) (t : Tab) : Prop := t.length = n ∧ ∀ l, l ∈ t → l.length = n

theorem Tab.sq_row {n : Nat} {t : Tab} (h : t.sq n) {i : Nat} (hi : i < n) : (t.getD i []).length = n := by
  have hi' : i < t.length := by rw [h.1]; exact hi
  rw [List.getD_eq_getElem?_getD, List.getElem?_eq_getElem hi', Option.getD_some]
  exact h.2 _ (List.getElem_mem hi')

theorem Tab.fill_sq {n : Nat} {t : Tab} (h : t.sq n) {m i k : Nat} (hi : i < n) : (Tab.fill m i k t).sq n := by
  refine ⟨by simp [Tab.fill, h.1], fun l hl => ?_⟩
  rcases List.mem_or_eq_of_mem_set hl with q | q
  · exact h.2 l q
  · rw [q, List.length_set]; exact Tab.sq_row h hi

theorem Tab.fill_at {n : Nat} {t : Tab} (h : t.sq n) {m i k : Nat} (hi : i < n) (hk : k < n) (a b : Nat) :
    (Tab.fill m i k t).at a b = if a = i ∧ b = k then (t.at i k || t.at i m && t.at m k) else t.at a b := by
  have hi' : i < t.length := by rw [h.1]; exact hi
  have hr := Tab.sq_row h hi
  by_cases ea : a = i
  · subst ea
    have e1 : (Tab.fill m a k t).getD a [] = (t.getD a []).set k (t.at a k || t.at a m && t.at m k) := by
      unfold Tab.fill
      simp [List.getD_eq_getElem?_getD, hi']
    by_cases eb : b = k
    · subst eb
      rw [if_pos ⟨rfl, rfl⟩]
      rw [Tab.at, e1]
      have hk' : b < (t.getD a []).length := by omega
      rw [List.getD_eq_getElem?_getD, List.getElem?_set_self hk', Option.getD_some]
    · rw [if_neg (fun h => eb h.2)]
      rw [Tab.at, e1, List.getD_eq_getElem?_getD, List.getElem?_set_ne (Ne.symm eb), ← List.getD_eq_getElem?_getD]; rfl
  · rw [if_neg (fun h => ea h.1)]
    have e1 : (Tab.fill m i k t).getD a [] = t.getD a [] := by
      unfold Tab.fill
      rw [List.getD_eq_getElem?_getD, List.getElem?_set_ne (Ne.symm ea), ← List.getD_eq_getElem?_getD]
    rw [Tab.at, e1]; rfl

/-- what a table tells when the deeds of phase m are done for the places p: nothing is lost, nothing is wrong, and what is done is there -/
structure Phase (d : Nat → Nat → Bool) (n m : Nat) (t t' : Tab) (p : Nat → Nat → Prop) : Prop where
  sq : t'.sq n
  up : ∀ i k, i < n → k < n → t.at i k = true → t'.at i k = true
  sound : ∀ i k, i < n → k < n → t'.at i k = true → Way d n i k
  new : ∀ i k, i < n → k < n → p i k → t.at i m = true → t.at m k = true → t'.at i k = true

theorem Phase.fill {d : Nat → Nat → Bool} {n m i k : Nat} {t t' : Tab} {p : Nat → Nat → Prop} (h : Phase d n m t t' p)
    (hm : m < n) (hi : i < n) (hk : k < n) : Phase d n m t (Tab.fill m i k t') (fun a b => p a b ∨ (a = i ∧ b = k)) := by
  refine ⟨Tab.fill_sq h.sq hi, fun a b ha hb hab => ?_, fun a b ha hb => ?_, fun a b ha hb hp h1 h2 => ?_⟩
  · rw [Tab.fill_at h.sq hi hk]
    split
    · rename_i e; rw [e.1, e.2] at hab
      rw [h.up i k hi hk hab]; rfl
    · exact h.up a b ha hb hab
  · rw [Tab.fill_at h.sq hi hk]
    split
    · rename_i e
      intro q
      simp only [Bool.or_eq_true, Bool.and_eq_true] at q
      rw [e.1, e.2]
      rcases q with q | q
      · exact h.sound i k hi hk q
      · exact .thru hm (h.sound i m hi hm q.1) (h.sound m k hm hk q.2)
    · exact h.sound a b ha hb
  · rw [Tab.fill_at h.sq hi hk]
    split
    · rename_i e
      rw [e.1] at h1; rw [e.2] at h2
      rw [h.up i m hi hm h1, h.up m k hm hk h2]; simp
    · rename_i e
      rcases hp with hp | hp
      · exact h.new a b ha hb hp h1 h2
      · exact absurd hp e

theorem Phase.mono {d : Nat → Nat → Bool} {n m : Nat} {t t' : Tab} {p q : Nat → Nat → Prop} (h : Phase d n m t t' p) (hq : ∀ a b, a < n → b < n → q a b → p a b) : Phase d n m t t' q :=
  ⟨h.sq, h.up, h.sound, fun i k hi hk hp => h.new i k hi hk (hq i k hi hk hp)⟩

theorem Phase.row {d : Nat → Nat → Bool} {n m i : Nat} {t : Tab} (hm : m < n) (hi : i < n) :
    ∀ (c : Nat) {t' : Tab} {p : Nat → Nat → Prop}, c ≤ n → Phase d n m t t' p →
      Phase d n m t ((List.range c).foldl (fun t k => Tab.fill m i k t) t') (fun a b => p a b ∨ (a = i ∧ b < c))
  | 0, _, _, _, h => by
    simp only [List.range_zero, List.foldl_nil]
    exact h.mono (fun a b _ _ q => q.elim id (fun q => absurd q.2 (Nat.not_lt_zero _)))
  | c + 1, t', p, hc, h => by
    rw [List.range_succ, List.foldl_append, List.foldl_cons, List.foldl_nil]
    exact ((Phase.row hm hi c (by omega) h).fill hm hi (by omega)).mono (fun a b _ _ q => by
      rcases q with q | ⟨q1, q2⟩
      · exact Or.inl (Or.inl q)
      · by_cases e : b = c
        · exact Or.inr ⟨q1, e⟩
        · exact Or.inl (Or.inr ⟨q1, by omega⟩))

theorem Phase.rows {d : Nat → Nat → Bool} {n m : Nat} {t : Tab} (hm : m < n) :
    ∀ (c : Nat) {t' : Tab} {p : Nat → Nat → Prop}, c ≤ n → Phase d n m t t' p →
      Phase d n m t ((List.range c).foldl (fun t i => Tab.row n m i t) t') (fun a b => p a b ∨ a < c)
  | 0, _, _, _, h => by
    simp only [List.range_zero, List.foldl_nil]
    exact h.mono (fun a b _ _ q => q.elim id (fun q => absurd q (Nat.not_lt_zero _)))
  | c + 1, t', p, hc, h => by
    rw [List.range_succ, List.foldl_append, List.foldl_cons, List.foldl_nil]
    exact (Phase.row hm (show c < n by omega) n (Nat.le_refl _) (Phase.rows hm c (by omega) h)).mono (fun a b _ hb q => by
      rcases q with q | q
      · exact Or.inl (Or.inl q)
      · by_cases e : a = c
        · exact Or.inr ⟨e, hb⟩
        · exact Or.inl (Or.inr (by omega)))

/-- the table tells all ways between numbers below m, and only ways -/
structure Tells (d : Nat → Nat → Bool) (n m : Nat) (t : Tab) : Prop where
  sq : t.sq n
  sound : ∀ i k, i < n → k < n → t.at i k = true → Way d n i k
  full : ∀ i k, i < n → k < n → Way d m i k → t.at i k = true

theorem Tells.phase {d : Nat → Nat → Bool} {n m : Nat} {t : Tab} (hm : m < n) (h : Tells d n m t) : Tells d n (m + 1) (Tab.phase n m t) := by
  have k : Phase d n m t (Tab.phase n m t) (fun a b => False ∨ a < n) :=
    Phase.rows hm n (Nat.le_refl _) ⟨h.sq, fun _ _ _ _ q => q, h.sound, fun _ _ _ _ q => q.elim⟩
  refine ⟨k.sq, k.sound, fun a b ha hb w => ?_⟩
  rcases w.succ with w | ⟨w, w'⟩
  · exact k.up a b ha hb (h.full a b ha hb w)
  · exact k.new a b ha hb (Or.inr ha) (h.full a m ha hm w) (h.full m b hm hb w')

theorem Tells.phases {d : Nat → Nat → Bool} {n : Nat} {t : Tab} (h : Tells d n 0 t) :
    ∀ (c : Nat), c ≤ n → Tells d n c ((List.range c).foldl (fun t m => Tab.phase n m t) t)
  | 0, _ => h
  | c + 1, hc => by
    rw [List.range_succ, List.foldl_append, List.foldl_cons, List.foldl_nil]
    exact (h.phases c (by omega)).phase (by omega)

/-- the first table -/
def Tab.mk (d : Nat → Nat → Bool) (n : Nat) : Tab := (List.range n).map (fun i => (List.range n).map (fun k => d i k))

theorem Tab.mk_sq (d : Nat → Nat → Bool) (n : Nat) : (Tab.mk d n).sq n := by
  refine ⟨by simp [Tab.mk], fun l hl => ?_⟩
  obtain ⟨i, _, e⟩ := List.mem_map.1 hl
  rw [← e]; simp

theorem Tab.mk_at (d : Nat → Nat → Bool) {n i k : Nat} (hi : i < n) (hk : k < n) : (Tab.mk d n).at i k = d i k := by
  simp [Tab.mk, Tab.at, List.getD_eq_getElem?_getD, hi, hk]

theorem Tab.begun (d : Nat → Nat → Bool) (n : Nat) : Tells d n 0 (Tab.mk d n) :=
  ⟨Tab.mk_sq d n, fun i k hi hk h => .base (by rwa [Tab.mk_at d hi hk] at h), fun i k hi hk w => by rw [Tab.mk_at d hi hk]; exact w.zero⟩

/-- the closed table tells just the ways -/
theorem Tab.all_at (d : Nat → Nat → Bool) {n i k : Nat} (hi : i < n) (hk : k < n) : (Tab.all n (Tab.mk d n)).at i k = true ↔ Way d n i k := by
  have h := (Tab.begun d n).phases n (Nat.le_refl _)
  exact ⟨h.sound i k hi hk, h.full i k hi hk⟩

/-- a way, told as steps -/
theorem way_iff {d : Nat → Nat → Bool} {n i k : Nat} (hk : k < n) :
    Way d n i k ↔ Relation.TransGen (fun a b => b < n ∧ d a b = true) i k := by
  constructor
  · intro w
    induction w with
    | base e => exact .single ⟨hk, e⟩
    | thru hj _ _ a b => exact Relation.TransGen.trans (a hj) (b hk)
  · intro h
    induction h with
    | single s => exact .base s.2
    | tail p s ih =>
      rename_i b c
      have hb : b < n := by cases p with
        | single s => exact s.1
        | tail _ s => exact s.1
      exact .thru hb (ih hb) (.base s.2)

/-- numbers and names: ways between places of a row of names, each there once, are ways between the names -/
theorem trans_names {N : Type} [DecidableEq N] {l : List N} {r : N → N → Bool} {d : Nat → Nat → Bool} (x0 : N)
    (hd : ∀ a b, a < l.length → b < l.length → d a b = r (l.getD a x0) (l.getD b x0))
    {i k : Nat} (hi : i < l.length) (hk : k < l.length) :
    Relation.TransGen (fun a b => b < l.length ∧ d a b = true) i k ↔ Relation.TransGen (Step l r) (l.getD i x0) (l.getD k x0) := by
  have mem : ∀ a, a < l.length → l.getD a x0 ∈ l := fun a ha => by
    rw [List.getD_eq_getElem?_getD, List.getElem?_eq_getElem ha, Option.getD_some]; exact List.getElem_mem ha
  constructor
  · intro h
    induction h with
    | single s => exact .single ⟨mem _ s.1, by rw [← hd _ _ hi s.1]; exact s.2⟩
    | tail p s ih =>
      rename_i b c
      have hb : b < l.length := by cases p with
        | single s => exact s.1
        | tail _ s => exact s.1
      exact .tail (ih hb) ⟨mem _ s.1, by rw [← hd _ _ hb s.1]; exact s.2⟩
  · intro h
    have key : ∀ y, Relation.TransGen (Step l r) (l.getD i x0) y → ∀ k, k < l.length → y = l.getD k x0 →
        Relation.TransGen (fun a b => b < l.length ∧ d a b = true) i k := by
      intro y h
      induction h with
      | single s => intro k hk e; exact .single ⟨hk, by rw [hd _ _ hi hk, ← e]; exact s.2⟩
      | tail p s ih =>
        rename_i b c
        intro k hk e
        have hb : b ∈ l := by cases p with
          | single s => exact s.1
          | tail _ s => exact s.1
        obtain ⟨j, hj, ej⟩ := List.getElem_of_mem hb
        have ej' : b = l.getD j x0 := by rw [List.getD_eq_getElem?_getD, List.getElem?_eq_getElem hj, Option.getD_some, ej]
        exact .tail (ih j hj ej') ⟨hk, by rw [hd _ _ hj hk, ← e, ← ej']; exact s.2⟩
    exact key _ h k hk rfl

end Gr
end Go.Proofs.Ytjnfemcfohflnaa
