import Derived.Test.YtpmjgkngkaleeaaJourBegun
/- Records that are put one behind the other (chapter L): what stays true; rows of the call's own that grow side by side. -/
namespace Go.Proofs.Ytpmjgkngkaleeaa
open Go.RowKit

structure JInv (F0 F : List ByteArray) (R : List ByteArray) (D : List Ded) (k e : Nat) : Prop where
  ok : flErr F = 0
  len : F.length = F0.length
  load : jload (flat F) = some (k, R, e)
  done : F = doneL F0 D
  deeds : ∀ d ∈ D, dedErr F0.length d = 0
  many : R.length ≤ k
  dl : D.length ≤ e + 5 * k
theorem JInv.start {F0 : List ByteArray} (h : flErr F0 = 0) (hl : jload (flat F0) = some (0, [], 0)) : JInv F0 F0 [] [] 0 0 :=
  ⟨h, rfl, hl, rfl, (fun _ h => by cases h), Nat.le_refl _, Nat.le_refl _⟩
theorem JInv.bound {F0 F R : List ByteArray} {D : List Ded} {k e : Nat} (h : JInv F0 F R D k e) : 5 * k ≤ 4096 ∧ e ≤ 4096 := by
  obtain ⟨e0, ho⟩ := load_ours h.load
  have h1 := ho.many
  have h2 := ho.end_le
  have h3 := flat_len h.ok
  have h4 := (flErr_ok.1 h.ok).1.2
  omega
theorem appDeeds_len {F R : List ByteArray} {k e : Nat} (h : jload (flat F) = some (k, R, e)) (s : List UInt8) : (appDeeds F s).length ≤ s.length + 5 := by
  unfold appDeeds
  rw [h]
  show (addD e (128 * F.length - 5 * (k + 1)) s).length ≤ _
  unfold addD
  have h1 := putD_length e s
  have h2 := putD_length (128 * F.length - 5 * (k + 1)) (headB e s.length)
  have h3 : (headB e s.length).length = 4 := rfl
  rw [List.length_append, List.length_append, List.length_singleton]
  omega
theorem JInv.next {F0 F R : List ByteArray} {D : List Ded} {k e : Nat} {s : ByteArray} (h : JInv F0 F R D k e) (ha : appErr F s.size = 0) : JInv F0 (doneL F (appDeeds F (bytesOf s))) (R ++ [s]) (D ++ appDeeds F (bytesOf s)) (k + 1) (e + s.size) := by
  rw [← bytes_length] at ha
  obtain ⟨h1, h2, _, _, _⟩ := open_after ha
  obtain ⟨k', r', e0', e', ho, hf, hd⟩ := app_fits ha
  have hj := ho.load
  rw [h.load] at hj
  simp only [Option.some.injEq, Prod.mk.injEq] at hj
  obtain ⟨rfl, rfl, rfl⟩ := hj
  have hall := all_done hf ho
  rw [← hd, of_bytes, bytes_length] at hall
  refine ⟨h1, h2.trans h.len, hall, ?_, ?_, ?_, ?_⟩
  · rw [doneL_append, ← h.done]
  · intro d hdm
    rcases List.mem_append.1 hdm with hdm | hdm
    · exact h.deeds d hdm
    · rw [← h.len]; rw [hd] at hdm; exact addD_ok hf d hdm
  · have := h.many; rw [List.length_append, List.length_singleton]; omega
  · have h3 := h.dl
    have h4 := appDeeds_len h.load (bytesOf s)
    rw [bytes_length] at h4
    rw [List.length_append]; omega
theorem JInv.err {F0 F R : List ByteArray} {D : List Ded} {k e n : Nat} (h : JInv F0 F R D k e) (ha : appErr F n ≠ 0) (h1 : n ≠ 0) (h8 : n ≤ 800) : appErr F n = 8 ∧ (flat F).length < e + n + 5 + 5 * (k + 1) := by
  unfold appErr at ha ⊢
  rw [if_pos h.ok, if_neg h1, if_neg (by omega)] at ha ⊢
  unfold addErr at ha ⊢
  rw [h.load] at ha ⊢
  simp only at ha ⊢
  by_cases hr : (flat F).length < e + n + 5 + 5 * (k + 1)
  · rw [if_pos hr]; exact ⟨rfl, hr⟩
  · rw [if_neg hr] at ha; exact absurd rfl ha
theorem JInv.open_ {F0 F R : List ByteArray} {D : List Ded} {k e : Nat} (h : JInv F0 F R D k e) : openErr F = 0 ∧ openRecs F = R := by
  unfold openErr openRecs
  rw [if_pos h.ok, if_pos h.ok, h.load]
  exact ⟨rfl, rfl⟩
theorem JInv.do_ {F0 F R : List ByteArray} {D : List Ded} {k e : Nat} (h : JInv F0 F R D k e) (h0 : flErr F0 = 0) : dedsErr F0 D = 0 ∧ doneL F0 D = F := ⟨dedsErr_ok.2 ⟨h0, h.deeds⟩, h.done.symm⟩

/-! rows that grow -/
theorem own_lt {w : World} {base size n : Nat} {e : TypeId} {v : Value} {xs : List Value} (h : w.ownsRow base e size v n xs) {b : Nat} (hb : v.ownBlock = some b) : b < w.heap.size ∧ base ≤ b := by
  rcases h.2 with ⟨rfl, _⟩ | ⟨g, cap, cur, rfl, h1, h2, _⟩
  · cases hb
  · have : g = b := by simpa [Value.ownBlock] using hb
    subst this
    exact ⟨(Array.getElem?_eq_some_iff.1 h2).1, h1⟩
theorem TOwn.grown {w w' : World} {base : Nat} {v : Value} {l : List ByteArray} {row : Option Nat} (h : TOwn w base v l) (hg : w.grownBy w' row) (hne : ∀ b, v.ownBlock = some b → row ≠ some b) : TOwn w' base v l := by
  refine ⟨h.1, ?_⟩
  rcases h.2 with h0 | ⟨g, cap, cur, rfl, e2, e3, e4⟩
  · exact .inl h0
  · refine .inr ⟨g, cap, cur, rfl, e2, ?_, e4⟩
    rw [hg.block g (Array.getElem?_eq_some_iff.1 e3).1 (fun h => hne g (by simp [Value.ownBlock]) h.symm)]; exact e3
theorem DOwn.grown {w w' : World} {base : Nat} {v : Value} {l : List Ded} {row : Option Nat} (h : DOwn w base v l) (hg : w.grownBy w' row) (hne : ∀ b, v.ownBlock = some b → row ≠ some b) : DOwn w' base v l := by
  refine ⟨h.1, ?_⟩
  rcases h.2 with h0 | ⟨g, cap, cur, rfl, e2, e3, e4⟩
  · exact .inl h0
  · refine .inr ⟨g, cap, cur, rfl, e2, ?_, e4⟩
    rw [hg.block g (Array.getElem?_eq_some_iff.1 e3).1 (fun h => hne g (by simp [Value.ownBlock]) h.symm)]; exact e3
/-- rows of texts and of deeds lie in other blocks -/
theorem own_ne {w : World} {b1 b2 s1 s2 n1 n2 : Nat} {e1 e2 : TypeId} {v1 v2 : Value} {x1 x2 : List Value} (h1 : w.ownsRow b1 e1 s1 v1 n1 x1) (h2 : w.ownsRow b2 e2 s2 v2 n2 x2) (hne : e1 ≠ e2) : ∀ b, v1.ownBlock = some b → v2.ownBlock ≠ some b := by
  intro b hb1 hb2
  rcases h1.2 with ⟨rfl, _⟩ | ⟨g, cap, cur, rfl, _, h3, _⟩
  · cases hb1
  · rcases h2.2 with ⟨rfl, _⟩ | ⟨g', cap', cur', rfl, _, h4, _⟩
    · cases hb2
    · have e1' : g = b := by simpa [Value.ownBlock] using hb1
      have e2' : g' = b := by simpa [Value.ownBlock] using hb2
      subst e1' e2'
      rw [h3] at h4
      injection h4 with h4
      injection h4 with _ h5 _
      exact hne h5
/-- a block of another type than the row's stays -/
theorem grown_block {w w' : World} {base size n : Nat} {e : TypeId} {v : Value} {xs : List Value} (h : w.ownsRow base e size v n xs) (hg : w.grownBy w' v.ownBlock) {b : Nat} {cs : Array Value} {t : TypeId} {fr : Nat × Nat} (hb : w.heap[b]? = some (.cells cs t fr)) (hne : t ≠ e) : w'.heap[b]? = some (.cells cs t fr) := by
  rw [hg.block b (Array.getElem?_eq_some_iff.1 hb).1 (fun he => ?_)]
  · exact hb
  · rcases h.2 with ⟨rfl, _⟩ | ⟨g, cap, cur, rfl, _, h3, _⟩
    · cases he
    · have : b = g := by simpa [Value.ownBlock] using he
      subst this
      rw [h3] at hb
      injection hb with hb
      injection hb with _ h5 _
      exact hne h5.symm
theorem append_textB (W : World) {ops : Array Oper} {rest : List Oper} {o : Oper} {a : Act} {Q : Exit → Act → World → Prop} (hgd : o.guard = none) (s x : Operand)
    (ho : o.op = .call { callee := .builtin .append, args := #[s, x], argTypes := #[22, 22] }) (base : Nat) (v : Value) (l0 : List ByteArray) (hs : a.eval s = v) (hown : TOwn W base v l0)
    (A : Option Addr) (c : Nat) (l1 : List ByteArray) (hx : a.eval x = .slice A l1.length c) (hr : Row strCells 1 W A l1) (hlen : l0.length + l1.length ≤ 1000000) (hbase : base ≤ W.heap.size)
    (h : ∀ v' w', TOwn w' base v' (l0 ++ l1) → Below base W w' → W.grownBy w' v.ownBlock → (v'.ownBlock = v.ownBlock ∨ v'.ownBlock = some W.heap.size) → wpList Try.prog ops Q rest (a.put o.dst v') w') : wpList Try.prog ops Q (o :: rest) a W := by
  obtain ⟨i0, hi, hz0, hz1, hz2⟩ := info_parts Try.infoStr
  refine wpList_append_any W hgd s x 22 ho base 9 i0 (.string ⟨#[]⟩) 1 16 Try.underlying22 hi hz0 hz1 hz2 rfl (by decide) v l0.length (l0.map Value.string) hs hown W.heap.size A l1.length c (l1.flatMap strCells) hx hr
    (fun u hu => by rw [← map_str] at hu; obtain ⟨y, _, rfl⟩ := List.mem_map.1 hu; rfl) (by simp only [maxLen]; omega) (by omega) hbase ?_
  intro v' w' h1 h2 h3
  refine h v' w' ?_ ((Below.refl base W).grown h2 hbase (own_base hown)) h2 h3
  unfold TOwn
  rw [List.length_append, List.map_append, map_str l1]; exact h1
theorem append_deedsB (W : World) {ops : Array Oper} {rest : List Oper} {o : Oper} {a : Act} {Q : Exit → Act → World → Prop} (hgd : o.guard = none) (s x : Operand)
    (ho : o.op = .call { callee := .builtin .append, args := #[s, x], argTypes := #[25, 25] }) (base : Nat) (v : Value) (l0 : List Ded) (hs : a.eval s = v) (hown : DOwn W base v l0)
    (A : Option Addr) (c : Nat) (l1 : List Ded) (hx : a.eval x = .slice A l1.length c) (hr : Row Ded.cells 3 W A l1) (hlen : l0.length + l1.length ≤ 1000000) (hbase : base ≤ W.heap.size)
    (h : ∀ v' w', DOwn w' base v' (l0 ++ l1) → Below base W w' → W.grownBy w' v.ownBlock → wpList Try.prog ops Q rest (a.put o.dst v') w') : wpList Try.prog ops Q (o :: rest) a W := by
  obtain ⟨i0, hi, hz0, hz1, hz2⟩ := info_parts Try.infoDed
  refine wpList_append_any W hgd s x 25 ho base 32 i0 zeroDed 3 24 Try.underlying25 hi hz0 hz1 hz2 rfl (by decide) v l0.length (l0.flatMap Ded.cells) hs hown W.heap.size A l1.length c (l1.flatMap Ded.cells) hx hr
    (ded_one l1) (by simp only [maxLen]; omega) (by omega) hbase ?_
  intro v' w' h1 h2 _
  refine h v' w' ?_ ((Below.refl base W).grown h2 hbase (own_base hown)) h2
  unfold DOwn
  rw [List.length_append, List.flatMap_append]; exact h1

end Go.Proofs.Ytpmjgkngkaleeaa
