import Derived.Test.YtjnfemcfohflnaaGraphTwice
import Derived.Test.YtjnfemcfohflnaaResPure
/- Plain Lean: the graph's plain law told of rows of placed modules (chapter E). No program in sight. -/
open Go
namespace Go.Proofs.Ytjnfemcfohflnaa
open Gs (Tx)

abbrev tx (s : ByteArray) : Tx := s.data.toList
theorem tx_inj {a b : ByteArray} (h : tx a = tx b) : a = b := by
  cases a; cases b; congr 1; exact Array.toList_inj.1 h
theorem tx_mk (l : Tx) : tx ⟨l.toArray⟩ = l := by simp [tx]
theorem mk_tx (s : ByteArray) : (⟨(tx s).toArray⟩ : ByteArray) = s := by cases s; simp [tx]
/-- names of some, as they stand -/
def txs (l : List Plc) : List Tx := l.map fun x => tx x.m.name
/-- does it ask one of that name? -/
def asks (m : Mod) (b : Tx) : Bool := m.im.any fun i => decide (tx i.mod = b)
def isAt (a : Tx) (x : Plc) : Bool := decide (tx x.m.name = a)
theorem isAt_named (s : ByteArray) : isAt (tx s) = named s := by
  funext x; unfold isAt named
  by_cases h : x.m.name = s
  · simp [h]
  · have : tx x.m.name ≠ tx s := fun e => h (tx_inj e)
    simp [h, this]
/-- does one need another one by itself? told by names -/
def dirT (l : List Plc) (a b : Tx) : Bool := match l.find? (isAt a) with
  | some x => asks x.m b
  | none => false
/-- the same, told by places -/
def dirN (l : List Plc) (i k : Nat) : Bool := match l[i]? with
  | some x => asks x.m ((txs l).getD k [])
  | none => false
def nmN (l : List Plc) (i : Nat) : Tx := (txs l).getD i []

theorem txs_length (l : List Plc) : (txs l).length = l.length := by simp [txs]
theorem txs_at {l : List Plc} {i : Nat} (h : i < l.length) : (txs l)[i]'(by rw [txs_length]; exact h) = tx l[i].m.name := by simp [txs]
theorem nmN_at {l : List Plc} {i : Nat} (h : i < l.length) : nmN l i = tx l[i].m.name := by
  unfold nmN; rw [List.getD_eq_getElem?_getD, List.getElem?_eq_getElem (by rw [txs_length]; exact h), Option.getD_some, txs_at h]
theorem names_txs (l : List Plc) : Gs.names (nmN l) l.length = txs l := by
  unfold Gs.names
  apply List.ext_getElem
  · simp [txs]
  · intro i h1 h2
    rw [List.getElem_map, List.getElem_range, nmN_at (by rwa [txs_length] at h2), txs_at (by rwa [txs_length] at h2)]

theorem nodup_one {l : List Plc} (hn : (txs l).Nodup) : ∀ i k, i < l.length → k < l.length → nmN l i = nmN l k → i = k := by
  intro i k hi hk e
  rw [nmN_at hi, nmN_at hk, ← txs_at hi, ← txs_at hk] at e
  have h1 : i < (txs l).length := by rw [txs_length]; exact hi
  have h2 : k < (txs l).length := by rw [txs_length]; exact hk
  rcases Nat.lt_trichotomy i k with h | h | h
  · exact absurd e (List.pairwise_iff_getElem.1 hn i k h1 h2 h)
  · exact h
  · exact absurd e.symm (List.pairwise_iff_getElem.1 hn k i h2 h1 h)
theorem find_nodup {l : List Plc} (hn : (txs l).Nodup) {i : Nat} (hi : i < l.length) : l.find? (isAt (nmN l i)) = some l[i] := by
  rw [List.find?_eq_some_iff_getElem]
  refine ⟨by simp [isAt, nmN_at hi], i, hi, rfl, fun j hj => ?_⟩
  have : tx (l[j]'(by omega)).m.name ≠ nmN l i := fun e => by
    have := nodup_one hn j i (by omega) hi (by rw [nmN_at (show j < l.length by omega)]; exact e)
    omega
  simp [isAt, this]
theorem dir_of {l : List Plc} (hn : (txs l).Nodup) : ∀ i k, i < l.length → k < l.length → dirT l (nmN l i) (nmN l k) = dirN l i k := by
  intro i k hi _
  unfold dirT dirN
  rw [find_nodup hn hi, List.getElem?_eq_getElem hi]; rfl

/-- have two one name? -/
def isTwice (l : List Plc) : Bool := decide ((Lib.compact (Gs.msort (txs l))).length < l.length)
theorem twice_nodup (l : List Plc) : isTwice l = true ↔ ¬ (txs l).Nodup := by
  unfold isTwice
  rw [decide_eq_true_eq]
  have h := Gs.compact_lt (Gs.msort_sorted (txs l))
  rw [(Gs.msort_perm (txs l)).nodup_iff, (Gs.msort_perm (txs l)).length_eq, txs_length] at h
  exact h
theorem not_twice {l : List Plc} (h : isTwice l = false) : (txs l).Nodup :=
  Classical.byContradiction fun hn => by rw [(twice_nodup l).2 hn] at h; cases h

def anyQ (_ : Plc) : Bool := true
/-- what is wrong with some modules -/
def grErr (l : List Plc) : Int := if modsAll anyQ l ≠ 0 then modsAll anyQ l else if isTwice l = true then 6 else 0
theorem grErr_ok {l : List Plc} (h : grErr l = 0) : l.length ≤ 8 ∧ (∀ x ∈ l, modErr x.m = 0) ∧ (txs l).Nodup := by
  unfold grErr at h
  split at h
  · contradiction
  · rename_i h1
    split at h
    · cases h
    · rename_i h2
      obtain ⟨a, b⟩ := modsAll_ok (by omega : modsAll anyQ l = 0)
      exact ⟨a, fun x hx => (b x hx).1, not_twice (by simpa using h2)⟩
/-- .. of which one must be there -/
def ofErr (l : List Plc) (nm : ByteArray) : Int := if grErr l ≠ 0 then grErr l else if idxOf (named nm) l < 0 then 5 else 0
theorem ofErr_ok {l : List Plc} {nm : ByteArray} (h : ofErr l nm = 0) : grErr l = 0 ∧ ∃ p, p < l.length ∧ idxOf (named nm) l = p ∧ tx nm = nmN l p := by
  unfold ofErr at h
  split at h
  · contradiction
  · rename_i h1
    split at h
    · cases h
    · rename_i h2
      refine ⟨by omega, ?_⟩
      rcases idxOf_cases (named nm) l with ⟨e, _⟩ | ⟨j, hj, e, hq, _⟩
      · omega
      · exact ⟨j, hj, e, by rw [nmN_at hj, of_decide_eq_true hq]⟩

/-- names that are come to from one, rising -/
def reachT (l : List Plc) (r : Tx → Tx → Bool) (a : Tx) : List Tx := (Gs.msort (txs l)).filter (fun x => decide (x ∈ Gr.visit (Gs.msort (txs l)) r (l.length + 1) [] a))
def needsT (l : List Plc) (nm : ByteArray) : List Tx := if ofErr l nm ≠ 0 then [] else reachT l (dirT l) (tx nm)
def usersT (l : List Plc) (nm : ByteArray) : List Tx := if ofErr l nm ≠ 0 then [] else reachT l (fun a b => dirT l b a) (tx nm)
/-- all names, each behind all that it needs; none: there is a round -/
def sortedT (l : List Plc) : Option (List Tx) := Gs.order (dirT l) l.length (Gs.msort (txs l)) []
def orderErr (l : List Plc) : Int := if grErr l ≠ 0 then grErr l else if (sortedT l).isNone then 4 else 0
def orderT (l : List Plc) : List Tx := if orderErr l ≠ 0 then [] else (sortedT l).getD []

/-- the document's table -/
def tabOf (l : List Plc) : Gr.Tab := Gr.Tab.all l.length (Gr.Tab.mk (dirN l) l.length)
/-- needs and users, by the document's table -/
def needsOf (l : List Plc) (p : Nat) (users : Bool) : List Tx :=
  Gs.msort (((List.range l.length).filter (fun i => if users then (tabOf l).at i p else (tabOf l).at p i)).map (nmN l))

theorem needs_doc {l : List Plc} {nm : ByteArray} (h : ofErr l nm = 0) : needsT l nm = needsOf l (idxOf (named nm) l).toNat false := by
  obtain ⟨hg, p, hp, e, en⟩ := ofErr_ok h
  obtain ⟨_, _, hn⟩ := grErr_ok hg
  unfold needsT reachT needsOf tabOf
  rw [if_neg (by omega), e, Int.toNat_natCast, en, ← names_txs]
  exact Gs.needs_eq (dir_of hn) hp (Nat.le_refl _)
theorem users_doc {l : List Plc} {nm : ByteArray} (h : ofErr l nm = 0) : usersT l nm = needsOf l (idxOf (named nm) l).toNat true := by
  obtain ⟨hg, p, hp, e, en⟩ := ofErr_ok h
  obtain ⟨_, _, hn⟩ := grErr_ok hg
  unfold usersT reachT needsOf tabOf
  rw [if_neg (by omega), e, Int.toNat_natCast, en, ← names_txs]
  exact Gs.users_eq (dir_of hn) hp (Nat.le_refl _)
/-- does one need itself, by the document's table? -/
def isRound (l : List Plc) : Bool := (List.range l.length).any fun i => (tabOf l).at i i
/-- the document's order -/
def orderD (l : List Plc) : List Tx := Gs.docOrder (nmN l) (tabOf l).at l.length l.length (List.replicate l.length false) []
theorem sorted_doc {l : List Plc} (h : grErr l = 0) : sortedT l = if isRound l = true then none else some (orderD l) := by
  obtain ⟨_, _, hn⟩ := grErr_ok h
  have N := Gs.net_of (n := l.length) (dir_of hn) (nodup_one hn)
  have hi : Gs.Inv (nmN l) (Gr.Way (dirN l) l.length) l.length (List.replicate l.length false) (Gs.msort (txs l)) := by
    rw [← names_txs]; exact Gs.Inv.begun
  have hl : (Gs.msort (txs l)).length = l.length := by rw [(Gs.msort_perm _).length_eq, txs_length]
  unfold sortedT
  by_cases hr : isRound l = true
  · rw [if_pos hr]
    obtain ⟨i, hi', hw⟩ := List.any_eq_true.1 hr
    have hi' := List.mem_range.1 hi'
    exact Gs.order_round N hi' ((N.tab i i hi' hi').1 hw) _ _ _ _ hi hl (by
      rw [List.getD_eq_getElem?_getD, List.getElem?_replicate]; split <;> rfl)
  · rw [if_neg hr]
    exact Gs.order_doc N (fun i hi' hw => hr (List.any_eq_true.2 ⟨i, List.mem_range.2 hi', (N.tab i i hi' hi').2 hw⟩)) _ _ _ _ hi hl

end Go.Proofs.Ytjnfemcfohflnaa
