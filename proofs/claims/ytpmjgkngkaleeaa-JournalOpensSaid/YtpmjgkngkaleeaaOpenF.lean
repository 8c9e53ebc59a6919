import Derived.Test.YtpmjgkngkaleeaaOpen
import Derived.Test.YtpmjgkngkaleeaaFlBegun
/- Arguments opened: flashes, deeds, rows of deeds: each lies in memory as 'ok' says. -/
namespace Go.Proofs.Ytpmjgkngkaleeaa
open Go.ChangeShapes Go.WideShapes Go.ChangeAt Go.RowKit Go.Deep

theorem wf_i64 {n : Int} (h : (Lit.int .i64 n).wf = true) : -9223372036854775808 ≤ n ∧ n ≤ 9223372036854775807 := by
  have h2 := h
  simp only [Lit.wf, Bool.and_eq_true, decide_eq_true_eq] at h2
  have e1 : IntKind.i64.min = -9223372036854775808 := by decide
  have e2 : IntKind.i64.max = 9223372036854775807 := by decide
  rw [e1, e2] at h2
  exact h2
/-- a slice's elements, and that it is no longer than its capacity -/
theorem open_rowC {H : Type} {enc : TypeId × Value → H} {w : World} {base : Nat} {spare : Nat → Bool} {held : Bool} {n : Nat} {c : Value} {y : DataW H × List MemPlace} {α : Type} (encE : α → List Value) (k : Nat) (hk : ∀ x, (encE x).length = k) (hk0 : 0 < k) (Q : α → Prop) {t e : TypeId} (ht : Try.prog.underlying t = some (.slice e)) (hb0 : 0 < Try.prog.bytesOf e) (hC : Try.prog.cellsOf e = k)
    (hE : ∀ (cs' : List Value) (n' : Nat) (z : DataW H × List MemPlace), cs'.length = k → DataW.trod enc Try.prog w base spare held n' e cs' = some z → Fits Try.prog e z.1 → ∃ x : α, cs' = encE x ∧ Q x)
    (h : DataW.trod enc Try.prog w base spare held n t [c] = some y) (hF : Fits Try.prog t y.1) : ∃ (A : Option Addr) (l : List α) (cap : Nat), c = .slice A l.length cap ∧ l.length ≤ big ∧ (∀ x ∈ l, Q x) ∧ Row encE k w A l ∧ l.length ≤ cap ∧ cap ≤ maxLen := by
  obtain ⟨A, l, cap, rfl, h1, h2, h3⟩ := open_row encE k hk hk0 Q ht hb0 hC hE h hF
  refine ⟨A, l, cap, rfl, h1, h2, h3, ?_⟩
  rcases open_slice ht h with ⟨e1, _⟩ | ⟨a, len, cap', m, n', D, Pl, e1, _, hl, hm, _⟩
  · simp only [List.cons.injEq, and_true, Value.slice.injEq] at e1
    obtain ⟨_, e2, e3⟩ := e1
    rw [e2, e3]; exact ⟨Nat.le_refl _, Nat.zero_le _⟩
  · simp only [List.cons.injEq, and_true, Value.slice.injEq] at e1
    obtain ⟨_, e2, e3⟩ := e1
    rw [e2, e3]; exact ⟨hl, hm⟩
theorem list1 {l : List Value} (h : l.length = 1) : ∃ a, l = [a] := by
  match l, h with | [a], _ => exact ⟨a, rfl⟩
theorem Try.cellsFlash : Try.prog.cellsOf 24 = 1 := by kernel_rfl
theorem Try.cellsDeed : Try.prog.cellsOf 32 = 3 := by kernel_rfl
section
variable {H : Type} {enc : TypeId × Value → H} {w : World} {base : Nat} {spare : Nat → Bool} {held : Bool} {r : Reach} {b0 : Nat} {v : Value} {d : DataW H} {p : List MemPlace} {n : Nat} {c : Value} {cs : List Value} {y : DataW H × List MemPlace}
theorem trod_texts (h : DataW.trod enc Try.prog w base spare held n 22 [c] = some y) (hF : Fits Try.prog 22 y.1) : ∃ (A : Option Addr) (l : List ByteArray) (cap : Nat), c = .slice A l.length cap ∧ TextsOk w A l ∧ l.length ≤ cap := by
  obtain ⟨A, l, cap, e, h1, h2, h3, h4, _⟩ := open_rowC strCells 1 (fun _ => rfl) (by omega) (fun s => s.size ≤ big) Try.underlying22 (by decide +kernel) (by kernel_rfl) (fun cs' _ _ hl ht hf => by
    obtain ⟨a, rfl⟩ := list1 hl
    obtain ⟨s, rfl, hs⟩ := trod_str ht
    exact ⟨s, rfl, hs hf⟩) h hF
  exact ⟨A, l, cap, e, ⟨h3, h1, h2⟩, h4⟩
theorem trod_ded (hl : cs.length = 3) (h : DataW.trod enc Try.prog w base spare held n 32 cs = some y) : ∃ x : Ded, cs = x.cells := by
  obtain ⟨a, b, c, rfl⟩ := list3 hl
  have hf := open_fields Try.underlying32 (by kernel_rfl) rfl h
  obtain ⟨_, _, h0, _⟩ := hf 0 _ _ rfl rfl
  obtain ⟨_, _, h1, _⟩ := hf 1 _ _ rfl rfl
  obtain ⟨_, _, h2, _⟩ := hf 2 _ _ rfl rfl
  obtain ⟨s, rfl⟩ := trod_i h0
  obtain ⟨t, rfl⟩ := trod_i h1
  obtain ⟨z, rfl⟩ := trod_i h2
  exact ⟨⟨s, t, z⟩, rfl⟩
theorem trod_deds (h : DataW.trod enc Try.prog w base spare held n 25 [c] = some y) (hF : Fits Try.prog 25 y.1) : ∃ (A : Option Addr) (l : List Ded) (cap : Nat), c = .slice A l.length cap ∧ DedsOk w A l ∧ l.length ≤ cap ∧ cap ≤ maxLen := by
  obtain ⟨A, l, cap, e, h1, _, h3, h4⟩ := open_rowC Ded.cells 3 (fun _ => rfl) (by omega) (fun _ => True) Try.underlying25 (by decide +kernel) (by kernel_rfl) (fun cs' _ _ hl ht _ => by
    obtain ⟨x, e⟩ := trod_ded hl ht
    exact ⟨x, e, trivial⟩) h hF
  exact ⟨A, l, cap, e, ⟨h3, h1⟩, h4⟩
set_option maxRecDepth 100000 in
theorem open_Flash (hv : Value.okWide Try.prog w r b0 24 v) (h : DataW.Trod enc Try.prog w base spare held 24 v d p) (hF : Fits Try.prog 24 d) : ∃ f : Fl, v = f.v ∧ f.ok w := by
  obtain ⟨cs, rfl, hsz⟩ := okWide_struct Try.underlying24 hv
  obtain ⟨fuel, hf⟩ := h
  obtain ⟨l⟩ := cs
  obtain ⟨a, rfl⟩ := list1 (l := l) (by have := hsz.trans Try.cellsFlash; simpa using this)
  have hf' := open_fields Try.underlying24 (by kernel_rfl) rfl hf
  obtain ⟨_, _, h0, f0⟩ := hf' 0 _ _ rfl rfl
  obtain ⟨A, l, cap, rfl, h1, h2⟩ := trod_texts h0 (f0 hF)
  exact ⟨⟨l, A, cap⟩, rfl, h1, h2⟩
set_option maxRecDepth 100000 in
theorem open_Deed (hv : Value.okWide Try.prog w r b0 32 v) (h : DataW.Trod enc Try.prog w base spare held 32 v d p) (_ : Fits Try.prog 32 d) : ∃ x : Ded, v = x.v ∧ True := by
  obtain ⟨cs, rfl, hsz⟩ := okWide_struct Try.underlying32 hv
  obtain ⟨fuel, hf⟩ := h
  obtain ⟨x, e⟩ := trod_ded (cs := cs.toList) (by rw [Array.length_toList, hsz, Try.cellsDeed]) hf
  obtain ⟨l⟩ := cs
  exact ⟨x, by simp only at e; rw [e]; rfl, trivial⟩
set_option maxRecDepth 100000 in
theorem open_Deeds (hv : Value.okWide Try.prog w r b0 25 v) (h : DataW.Trod enc Try.prog w base spare held 25 v d p) (hF : Fits Try.prog 25 d) :
    ∃ (A : Option Addr) (l : List Ded) (cap : Nat), v = .slice A l.length cap ∧ DedsOk w A l ∧ l.length ≤ cap ∧ cap ≤ maxLen := by
  obtain ⟨a, len, cap, rfl⟩ := okWide_slice Try.underlying25 hv
  obtain ⟨fuel, hf⟩ := h
  exact trod_deds (c := .slice a len cap) hf hF
end

end Go.Proofs.Ytpmjgkngkaleeaa
