import Derived.Test.YtgkpbndeljnjcaaPlcs
import Derived.Test.YtgkpbndeljnjcaaOpen
/- Rows of placed modules: a part of one, appended; a slice's length is at most its capacity. -/
namespace Go.Proofs.Ytgkpbndeljnjcaa
open Go.ChangeShapes Go.WideShapes Go.ChangeAt Go.RowKit Go.WideMaps Go.WideElems

theorem placeds_cap {H : Type} {enc : TypeId × Value → H} {w : World} {base : Nat} {spare : Nat → Bool} {held : Bool} {A : Option Addr} {len cap : Nat} {d : DataW H} {p : List MemPlace}
    (h : DataW.Trod enc Try.prog w base spare held 22 (.slice A len cap) d p) : len ≤ cap ∧ cap ≤ maxLen := by
  obtain ⟨fuel, hf⟩ := h
  rcases Go.Deep.open_slice Try.underlying22 hf with ⟨e1, _⟩ | ⟨a, len', cap', m, n', D, Pl, e1, _, hl, hc, _⟩
  · simp only [Value.cells, List.cons.injEq, and_true] at e1
    injection e1 with _ h1 h2
    subst h1 h2
    exact ⟨Nat.le_refl _, Nat.zero_le _⟩
  · simp only [Value.cells, List.cons.injEq, and_true] at e1
    injection e1 with _ h1 h2
    subst h1 h2
    exact ⟨hl, hc⟩
theorem Row.take {α : Type} {enc : α → List Value} {k : Nat} {w : World} {A : Option Addr} {l : List α} (hk : ∀ x, (enc x).length = k) (h : Row enc k w A l) (i : Nat) : Row enc k w A (l.take i) := by
  refine ⟨flat_length hk _, fun hn => ?_⟩
  rw [List.length_take] at hn
  obtain ⟨ad, e, hb, hc⟩ := h.2 (by omega)
  refine ⟨ad, e, hb, fun j u hu => hc j u ?_⟩
  conv => lhs; rw [← List.take_append_drop i l]
  rw [List.flatMap_append, List.getElem?_append_left]
  · exact hu
  · exact (List.getElem?_eq_some_iff.1 hu).1
theorem Row.drop {α : Type} {enc : α → List Value} {k : Nat} {w : World} {ad : Addr} {l : List α} (hk : ∀ x, (enc x).length = k) (h : Row enc k w (some ad) l) (i : Nat) : Row enc k w (some (ad.add (i * k))) (l.drop i) := by
  refine ⟨flat_length hk _, fun hn => ?_⟩
  rw [List.length_drop] at hn
  obtain ⟨ad', e, hb, hc⟩ := h.2 (by omega)
  obtain rfl := Option.some.inj e
  refine ⟨_, rfl, by rw [block_of_add]; exact hb, fun j u hu => ?_⟩
  rw [add_of_add]
  refine hc _ u ?_
  conv => lhs; rw [← List.take_append_drop i l]
  have hl : ((l.take i).flatMap enc).length = i * k := by rw [flat_length hk, List.length_take]; congr 1; omega
  rw [List.flatMap_append, List.getElem?_append_right (by omega), hl, show i * k + j - i * k = j by omega]
  exact hu

theorem wp_plcsN (W : World) {o : Oper} {a : Act} {K : Act → World → Prop} {Q : Exit → Act → World → Prop} (s x : Operand)
    (ho : o.op = .call { callee := .builtin .append, args := #[s, x], argTypes := #[22, 22] }) (base : Nat) (v : Value) (l0 : List Plc) (hs : a.eval s = v) (hown : PlcOwn W base v l0)
    (A : Option Addr) (m c : Nat) (l1 : List Plc) (hx : a.eval x = .slice A m c) (hm : l1.length = m) (hr : Row Plc.cells 8 W A l1) (hlen : l0.length + l1.length ≤ 1000000) (hbase : base ≤ W.heap.size)
    (h : ∀ v' w', PlcOwn w' base v' (l0 ++ l1) → Below base W w' → W.grownBy w' v.ownBlock → K (a.put o.dst v') w') : Oper.wp Try.prog o a W K Q := by
  subst hm
  exact wp_plcs W s x ho base v l0 hs hown A c l1 hx hr hlen hbase h
theorem Row.zero {α : Type} {enc : α → List Value} {k : Nat} {w : World} {A : Option Addr} {l : List α} (hk : ∀ x, (enc x).length = k) (h : l.length = 0) : Row enc k w A l := ⟨flat_length hk _, fun hn => by omega⟩

end Go.Proofs.Ytgkpbndeljnjcaa
