import Derived.Test.YtjnfemcfohflnaaTextMem
import Derived.Test.YtjnfemcfohflnaaGrPure
import Derived.Sort.EncStr
/- Rows of texts of the call's own, told by their bytes (chapter E). -/
namespace Go.Proofs.Ytjnfemcfohflnaa
open Go.RowKit Go.Sort
open Gs (Tx)

abbrev bs (t : Tx) : ByteArray := ⟨t.toArray⟩
theorem bs_tx (s : ByteArray) : bs (tx s) = s := mk_tx s
theorem tx_bs (t : Tx) : tx (bs t) = t := tx_mk t
/-- a row of texts of the call's own, told by their bytes -/
def TR (w : World) (base : Nat) (v : Value) (ss : List Tx) : Prop := TOwn w base v (ss.map bs)
theorem enc_bs (ss : List Tx) : ss.map encStr = (ss.map bs).map Value.string := by rw [List.map_map]; rfl
theorem TR.own {w : World} {base : Nat} {v : Value} {ss : List Tx} (h : TR w base v ss) : w.ownsRow base 9 1 v ss.length (ss.map encStr) := by
  have := h; unfold TR TOwn at this; rw [List.length_map] at this; rw [enc_bs]; exact this
theorem TR.of_own {w : World} {base n : Nat} {v : Value} {ss : List Tx} (h : w.ownsRow base 9 1 v n (ss.map encStr)) : TR w base v ss := by
  have hn : n = ss.length := by have := h.1; simp at this; exact this.symm
  subst hn
  unfold TR TOwn; rw [List.length_map, ← enc_bs]; exact h
theorem TR.nil (w : World) (base : Nat) : TR w base (.slice none 0 0) [] := TOwn.nil _ _
theorem TR.form {w : World} {base : Nat} {v : Value} {ss : List Tx} (h : TR w base v ss) : ∃ (A : Option Addr) (c : Nat), v = .slice A ss.length c ∧ Row strCells 1 w A (ss.map bs) := by
  obtain ⟨A, c, e, hr, _⟩ := TOwn.form h
  rw [List.length_map] at e
  exact ⟨A, c, e, hr⟩
theorem TR.below {w w' : World} {base B : Nat} {v : Value} {ss : List Tx} (h : TR w base v ss) (hb : Below B w w') (hB : w.heap.size ≤ B) : TR w' base v ss := TOwn.below h hb hB
theorem TR.alloc {w : World} {base : Nat} {v : Value} {ss : List Tx} (h : TR w base v ss) (o : Obj) : TR (w.alloc o) base v ss := by unfold TR TOwn at *; exact h.alloc o
theorem TR.lt {w : World} {base : Nat} {v : Value} {ss : List Tx} (h : TR w base v ss) : ∀ g, v.ownBlock = some g → base ≤ g ∧ g < w.heap.size := fun g hg => World.ownsRow.lt h g hg
theorem TR.kept {w w' : World} {base : Nat} {v : Value} {ss : List Tx} {row : Option Nat} (h : TR w base v ss) (hg : w.grownBy w' row) (hne : v.ownBlock = none ∨ v.ownBlock ≠ row) : TR w' base v ss := World.ownsRow.kept h hg hne
theorem TR.more {w : World} {base base' : Nat} {v : Value} {ss : List Tx} (h : TR w base v ss) (hB : base' ≤ base) : TR w base' v ss := by
  refine ⟨h.1, ?_⟩
  rcases h.2 with h0 | ⟨g, cap, cur, e1, e2, e3⟩
  · exact .inl h0
  · exact .inr ⟨g, cap, cur, e1, by omega, e3⟩
abbrev TxRow (w : World) (A : Option Addr) (ss : List Tx) : Prop := Row strCells 1 w A (ss.map bs)
theorem tx_at {w w' : World} {A : Option Addr} {ss : List Tx} (h : TxRow w A ss) (hb : Below w.heap.size w w') (i : Nat) (hi : i < ss.length) :
    ∃ ad, A = some ad ∧ ad.block < w.heap.size ∧ w'.cell? (ad.add i) = some (.string (bs ss[i])) := by
  obtain ⟨ad, e, hab, hc⟩ := text_at h hb i (by simpa using hi)
  rw [List.getElem_map] at hc
  exact ⟨ad, e, hab, hc⟩
theorem append_tr (W : World) {ops : Array Oper} {rest : List Oper} {o : Oper} {a : Act} {Q : Exit → Act → World → Prop} (hgd : o.guard = none) (s x : Operand)
    (ho : o.op = .call { callee := .builtin .append, args := #[s, x], argTypes := #[79, 79] }) (base : Nat) (v : Value) (ss : List Tx) (n : ByteArray) (hs : a.eval s = v)
    (hx : a.eval x = .slice (some ⟨W.heap.size, 0, none⟩) 1 1) (hown : TR W base v ss) (hl : ss.length ≤ 1000000) (hbase : base ≤ W.heap.size)
    (h : ∀ v' w', TR w' base v' (ss ++ [tx n]) → Below base W w' → wpList Try.prog ops Q rest (a.put o.dst v') w') : wpList Try.prog ops Q (o :: rest) a (W.alloc (.cells #[.string n] 9)) :=
  append_str W hgd s x ho base v (ss.map bs) n hs hx hown (by simpa using hl) hbase (fun v' w' h1 h2 => h v' w' (by unfold TR; rw [List.map_append, List.map_cons, List.map_nil, bs_tx]; exact h1) h2)
theorem grown_of_below {w w' : World} (h : Below w.heap.size w w') (row : Option Nat) : w.grownBy w' row := ⟨h.os, h.tape, h.output, h.size, fun k hk _ => h.block k hk⟩
theorem grown_below {B : Nat} {w w' : World} {row : Option Nat} (h : w.grownBy w' row) (hB : B ≤ w.heap.size) (hr : ∀ g, row = some g → B ≤ g) : Below B w w' :=
  (Below.refl B w).grown h hB hr

end Go.Proofs.Ytjnfemcfohflnaa
