import Derived.Test.YtgkpbndeljnjcaaGrPure
/- Plain Lean: what needs, users and orders tell of each other (chapter E), of rows of placed modules. No program in sight. -/
open Go
namespace Go.Proofs.Ytgkpbndeljnjcaa
open Gs (Tx)

abbrev StepT (l : List Plc) : Tx → Tx → Prop := Relation.TransGen (Gr.Step (txs l) (dirT l))
abbrev StepU (l : List Plc) : Tx → Tx → Prop := Relation.TransGen (Gr.Step (txs l) (fun a b => dirT l b a))
theorem trans_mem {all : List Tx} {r : Tx → Tx → Bool} {a b : Tx} (h : Relation.TransGen (Gr.Step all r) a b) : b ∈ all := by
  cases h with
  | single s => exact s.1
  | tail _ s => exact s.1
theorem reach_mem {l : List Plc} {r : Tx → Tx → Bool} {a t : Tx} : t ∈ reachT l r a ↔ Relation.TransGen (Gr.Step (txs l) r) a t := by
  unfold reachT
  rw [List.mem_filter, Gs.msort_mem, decide_eq_true_eq, Gr.visit_iff (by rw [(Gs.msort_perm _).length_eq, txs_length]; exact Nat.le_refl _), Gs.step_perm (fun x => Gs.msort_mem (txs l) x)]
  exact ⟨fun h => h.2, fun h => ⟨trans_mem h, h⟩⟩
theorem needs_mem {l : List Plc} {a : ByteArray} (h : ofErr l a = 0) {t : Tx} : t ∈ needsT l a ↔ StepT l (tx a) t := by
  unfold needsT; rw [if_neg (by omega)]; exact reach_mem
theorem users_mem {l : List Plc} {a : ByteArray} (h : ofErr l a = 0) {t : Tx} : t ∈ usersT l a ↔ StepU l (tx a) t := by
  unfold usersT; rw [if_neg (by omega)]; exact reach_mem
theorem of_mem {l : List Plc} {a : ByteArray} (h : ofErr l a = 0) : tx a ∈ txs l := by
  obtain ⟨_, p, hp, _, e⟩ := ofErr_ok h
  rw [e, nmN_at hp, ← txs_at hp]; exact List.getElem_mem _
theorem of_zero {l : List Plc} (hg : grErr l = 0) {a : ByteArray} (h : tx a ∈ txs l) : ofErr l a = 0 := by
  unfold ofErr
  rw [if_neg (by omega), if_neg ?_]
  rcases idxOf_cases (named a) l with ⟨_, hno⟩ | ⟨j, _, e, _⟩
  · obtain ⟨x, hx, e⟩ := List.mem_map.1 h
    have := hno x hx
    simp [named, tx_inj e] at this
  · rw [e]; omega
theorem turned_mem {l : List Plc} {a b : ByteArray} (ha : ofErr l a = 0) (hb : ofErr l b = 0) : tx b ∈ needsT l a ↔ tx a ∈ usersT l b := by
  rw [needs_mem ha, users_mem hb]
  exact Gs.turned_iff (of_mem ha) (of_mem hb)
theorem needs_trans {l : List Plc} {a b : ByteArray} (ha : ofErr l a = 0) (hb : ofErr l b = 0) (h : tx b ∈ needsT l a) {t : Tx} (ht : t ∈ needsT l b) : t ∈ needsT l a := by
  rw [needs_mem ha] at h ⊢
  rw [needs_mem hb] at ht
  exact Relation.TransGen.trans h ht

/-! ### in order each stands behind all that it needs -/
theorem order_ok {l : List Plc} (h : orderErr l = 0) : grErr l = 0 ∧ sortedT l = some (orderT l) := by
  unfold orderErr at h
  split at h
  · contradiction
  · split at h
    · cases h
    · rename_i h1 h2
      refine ⟨by omega, ?_⟩
      have h3 : orderErr l = 0 := by unfold orderErr; rw [if_neg h1, if_neg h2]
      unfold orderT; rw [if_neg (by omega)]
      cases e : sortedT l with
      | none => rw [e] at h2; exact absurd rfl h2
      | some c => rfl
theorem order_perm {l : List Plc} (h : orderErr l = 0) : (orderT l).Perm (txs l) ∧ ∀ i a, (orderT l)[i]? = some a → ∀ b, b ∈ txs l → dirT l a b = true → b ∈ (orderT l).take i := by
  obtain ⟨hg, hs⟩ := order_ok h
  obtain ⟨_, _, hn⟩ := grErr_ok hg
  unfold sortedT at hs
  obtain ⟨p, e1, e2, e3⟩ := Gs.order_tells _ _ _ _ (by rw [(Gs.msort_perm _).length_eq, txs_length]) ((Gs.msort_perm (txs l)).nodup_iff.2 hn) hs
  rw [List.nil_append] at e1
  refine ⟨by rw [e1]; exact e2.trans (Gs.msort_perm _), fun i a ha b hb hr => ?_⟩
  rw [e1] at ha ⊢
  exact e3 i a ha b ((Gs.msort_mem _ _).2 hb) hr
theorem order_needs {l : List Plc} (h : orderErr l = 0) {i : Nat} {a : Tx} (ha : (orderT l)[i]? = some a) {t : Tx} (ht : StepT l a t) : t ∈ (orderT l).take i :=
  Gs.order_behind (order_perm h).2 ha ht

/-! ### without one that nobody needs -/
def lessL (l : List Plc) (n : Nat) : List Plc := l.take n ++ l.drop (n + 1)
theorem txs_less (l : List Plc) (n : Nat) : txs (lessL l n) = (txs l).take n ++ (txs l).drop (n + 1) := by
  unfold lessL txs; rw [List.map_append, List.map_take, List.map_drop]
theorem erase_less {α : Type} [BEq α] [LawfulBEq α] : ∀ {l : List α} {n : Nat} (_ : l.Nodup) (h : n < l.length), l.erase l[n] = l.take n ++ l.drop (n + 1)
  | x :: l, 0, _, _ => by simp
  | x :: l, n + 1, hn, h => by
    have hn' := List.nodup_cons.1 hn
    have h' : n < l.length := by simpa using h
    have ne : x ≠ l[n] := fun e => hn'.1 (e ▸ List.getElem_mem _)
    rw [List.getElem_cons_succ, List.erase_cons_tail (by simpa using ne), erase_less hn'.2 h']
    simp
theorem txs_erase {l : List Plc} {n : Nat} (hn : (txs l).Nodup) (h : n < l.length) : txs (lessL l n) = (txs l).erase (tx l[n].m.name) := by
  rw [txs_less, ← txs_at h, erase_less hn]
theorem filter_less {l : List Plc} {n : Nat} (h : n < l.length) {F1 F2 : Tx → Bool} (hF : ∀ t, F2 t = F1 t) (hx : F1 (tx l[n].m.name) = false) : (txs (lessL l n)).filter F2 = (txs l).filter F1 := by
  have e : txs l = (txs l).take n ++ tx l[n].m.name :: (txs l).drop (n + 1) := by
    rw [← txs_at h, ← List.drop_eq_getElem_cons, List.take_append_drop]
  obtain rfl : F2 = F1 := funext hF
  rw [txs_less]
  conv => rhs; rw [e]
  rw [List.filter_append, List.filter_append, List.filter_cons_of_neg (by simp [hx])]
theorem less_mem {l : List Plc} {n : Nat} {x : Plc} (h : x ∈ lessL l n) : x ∈ l := by
  unfold lessL at h
  rcases List.mem_append.1 h with h | h
  · exact List.mem_of_mem_take h
  · exact List.mem_of_mem_drop h
theorem find_less {l : List Plc} {n : Nat} (h : n < l.length) {p : Plc → Bool} (hp : p l[n] = false) : (lessL l n).find? p = l.find? p := by
  have e : l = l.take n ++ l[n] :: l.drop (n + 1) := by rw [← List.drop_eq_getElem_cons h, List.take_append_drop]
  unfold lessL
  conv => rhs; rw [e]
  rw [List.find?_append, List.find?_append, List.find?_cons, hp]
theorem modsErr_zero {q : Plc → Bool} : ∀ {l : List Plc}, (∀ x ∈ l, modErr x.m = 0 ∧ q x = true) → modsErr q l = 0
  | [], _ => rfl
  | x :: l, h => by
    unfold modsErr
    have h1 := h x (by simp)
    rw [if_neg (by omega), if_neg (by simp [h1.2])]
    exact modsErr_zero (fun y hy => h y (List.mem_cons_of_mem _ hy))
theorem grErr_zero {l : List Plc} (h8 : l.length ≤ 8) (h : ∀ x ∈ l, modErr x.m = 0) (hn : (txs l).Nodup) : grErr l = 0 := by
  have e1 : modsAll anyQ l = 0 := by unfold modsAll; rw [if_neg (by omega)]; exact modsErr_zero (fun x hx => ⟨h x hx, rfl⟩)
  have e2 : ¬ isTwice l = true := fun e => by rw [twice_nodup] at e; exact e hn
  unfold grErr; rw [e1, if_neg e2]; rfl
theorem less_length {l : List Plc} {n : Nat} (h : n < l.length) : (lessL l n).length + 1 = l.length := by
  unfold lessL; rw [List.length_append, List.length_take, List.length_drop]; omega
theorem grErr_less {l : List Plc} {n : Nat} (hg : grErr l = 0) (h : n < l.length) : grErr (lessL l n) = 0 := by
  obtain ⟨h8, hm, hn⟩ := grErr_ok hg
  refine grErr_zero (by have := less_length h; omega) (fun x hx => hm x (less_mem hx)) ?_
  rw [txs_erase hn h]; exact hn.erase _

theorem nobody {l : List Plc} {n : Nat} (hg : grErr l = 0) (h : n < l.length) (hu : usersT l l[n].m.name = []) : ∀ a, a ∈ txs l → dirT l a (tx l[n].m.name) = false := fun a ha => by
  cases e : dirT l a (tx l[n].m.name)
  · rfl
  · have hz : ofErr l l[n].m.name = 0 := of_zero hg (by rw [← txs_at h]; exact List.getElem_mem _)
    have : a ∈ usersT l l[n].m.name := (users_mem hz).2 (.single ⟨ha, e⟩)
    rw [hu] at this; cases this
theorem dirT_less {l : List Plc} {n : Nat} (hg : grErr l = 0) (h : n < l.length) {a : Tx} (ha : a ∈ txs (lessL l n)) (b : Tx) : dirT (lessL l n) a b = dirT l a b := by
  obtain ⟨_, _, hn⟩ := grErr_ok hg
  unfold dirT
  rw [find_less h]
  unfold isAt
  refine decide_eq_false (fun e => ?_)
  rw [txs_erase hn h, e, hn.mem_erase_iff] at ha
  exact ha.1 rfl
theorem needs_less {l : List Plc} {n : Nat} (hg : grErr l = 0) (h : n < l.length) (hu : usersT l l[n].m.name = []) {x : ByteArray} (hx : tx x ∈ txs (lessL l n)) : needsT (lessL l n) x = needsT l x ∧ ofErr l x = 0 ∧ ofErr (lessL l n) x = 0 := by
  obtain ⟨_, _, hn⟩ := grErr_ok hg
  have hgl := grErr_less hg h
  have hxl : tx x ∈ txs l := by rw [txs_erase hn h] at hx; exact List.mem_of_mem_erase hx
  have z1 := of_zero hg hxl
  have z2 := of_zero hgl hx
  refine ⟨?_, z1, z2⟩
  have he2 : txs (lessL l n) = @List.erase Tx instBEqOfDecidableEq (txs l) (tx l[n].m.name) := by
    rw [txs_less, ← txs_at h, @erase_less Tx instBEqOfDecidableEq inferInstance _ _ hn]
  have key : ∀ t, StepT (lessL l n) (tx x) t ↔ StepT l (tx x) t := fun t => by
    unfold StepT
    rw [he2] at hx ⊢
    exact (Gs.less_needs hn (nobody hg h hu) (fun a b ha _ => dirT_less hg h (by rw [he2]; exact ha) b) hx t).symm
  unfold needsT reachT
  rw [if_neg (by omega), if_neg (by omega), Gs.msort_filter, Gs.msort_filter]
  congr 1
  have P1 : ∀ t, decide (t ∈ Gr.visit (Gs.msort (txs l)) (dirT l) (l.length + 1) [] (tx x)) = true ↔ StepT l (tx x) t := fun t => by
    rw [decide_eq_true_eq, Gr.visit_iff (by rw [(Gs.msort_perm _).length_eq, txs_length]; exact Nat.le_refl _), Gs.step_perm (fun x => Gs.msort_mem (txs l) x)]
  have P2 : ∀ t, decide (t ∈ Gr.visit (Gs.msort (txs (lessL l n))) (dirT (lessL l n)) ((lessL l n).length + 1) [] (tx x)) = true ↔ StepT (lessL l n) (tx x) t := fun t => by
    rw [decide_eq_true_eq, Gr.visit_iff (by rw [(Gs.msort_perm _).length_eq, txs_length]; exact Nat.le_refl _), Gs.step_perm (fun x => Gs.msort_mem (txs (lessL l n)) x)]
  refine filter_less h (fun t => by rw [Bool.eq_iff_iff, P1, P2, key]) ?_
  cases e : decide (tx l[n].m.name ∈ Gr.visit (Gs.msort (txs l)) (dirT l) (l.length + 1) [] (tx x))
  · rfl
  · have hs := (P1 _).1 e
    have : ∃ y, y ∈ txs l ∧ dirT l y (tx l[n].m.name) = true := by
      cases hs with
      | single s => exact ⟨_, hxl, s.2⟩
      | tail p s => exact ⟨_, trans_mem p, s.2⟩
    obtain ⟨y, hy, hd⟩ := this
    rw [nobody hg h hu y hy] at hd; cases hd
theorem sorted_less {l : List Plc} {n : Nat} (hg : grErr l = 0) (h : n < l.length) (hu : usersT l l[n].m.name = []) : sortedT (lessL l n) = (sortedT l).map (Gs.but (tx l[n].m.name)) := by
  obtain ⟨_, _, hn⟩ := grErr_ok hg
  have he := txs_erase hn h
  have hl := less_length h
  have hT : (Gs.msort (txs l)).Nodup := (Gs.msort_perm (txs l)).nodup_iff.2 hn
  have hx : tx l[n].m.name ∈ Gs.msort (txs l) := by rw [Gs.msort_mem, ← txs_at h]; exact List.getElem_mem _
  have em : (Gs.msort (txs l)).erase (tx l[n].m.name) = Gs.msort (txs (lessL l n)) := by
    rw [he]
    exact Gs.eq_msort ((Gs.msort_perm _).erase _) ((Gs.msort_sorted _).sublist List.erase_sublist)
  unfold sortedT
  have := Gs.order_less (r := dirT l) (x := tx l[n].m.name) (lessL l n).length (Gs.msort (txs l)) [] (by rw [(Gs.msort_perm _).length_eq, txs_length]; omega) hT hx (fun a ha => nobody hg h hu a ((Gs.msort_mem _ _).1 ha))
  rw [hl] at this
  rw [this, em]
  exact Gs.order_congr _ _ _ (fun a b ha _ => dirT_less hg h ((Gs.msort_mem _ _).1 ha) b)
theorem order_lessT {l : List Plc} {n : Nat} (hg : grErr l = 0) (h : n < l.length) (hu : usersT l l[n].m.name = []) : orderErr (lessL l n) = orderErr l ∧ orderT (lessL l n) = Gs.but (tx l[n].m.name) (orderT l) := by
  have hs := sorted_less hg h hu
  have hgl := grErr_less hg h
  have e1 : orderErr (lessL l n) = orderErr l := by
    unfold orderErr; rw [hg, hgl, hs]
    cases sortedT l <;> rfl
  refine ⟨e1, ?_⟩
  unfold orderT
  rw [e1]
  by_cases h0 : orderErr l = 0
  · rw [if_neg (by omega), if_neg (by omega), hs]
    cases sortedT l <;> rfl
  · rw [if_pos h0, if_pos h0]; rfl

end Go.Proofs.Ytgkpbndeljnjcaa
