import Derived.Test.YtpmjgkngkaleeaaOpenF
/- Arguments opened: rows of texts, rows of numbers. -/
namespace Go.Proofs.Ytpmjgkngkaleeaa
open Go.ChangeShapes Go.WideShapes Go.ChangeAt Go.RowKit Go.Deep

section
variable {H : Type} {enc : TypeId × Value → H} {w : World} {base : Nat} {spare : Nat → Bool} {held : Bool} {r : Reach} {b0 : Nat} {v : Value} {d : DataW H} {p : List MemPlace} {n : Nat} {c : Value} {cs : List Value} {y : DataW H × List MemPlace}
set_option maxRecDepth 100000 in
theorem open_Texts (hv : Value.okWide Try.prog w r b0 22 v) (h : DataW.Trod enc Try.prog w base spare held 22 v d p) (hF : Fits Try.prog 22 d) :
    ∃ (A : Option Addr) (l : List ByteArray) (cap : Nat), v = .slice A l.length cap ∧ TextsOk w A l ∧ l.length ≤ cap := by
  obtain ⟨a, len, cap, rfl⟩ := okWide_slice Try.underlying22 hv
  obtain ⟨fuel, hf⟩ := h
  exact trod_texts (c := .slice a len cap) hf hF
def intCells (n : Int) : List Value := [iv n]
structure IntsOk (w : World) (A : Option Addr) (l : List Int) : Prop where
  row : Row intCells 1 w A l
  len : l.length ≤ big
  each : ∀ n ∈ l, -9223372036854775808 ≤ n ∧ n ≤ 9223372036854775807
theorem IntsOk.below {w w' : World} {A : Option Addr} {l : List Int} (h : IntsOk w A l) (hb : Below w.heap.size w w') : IntsOk w' A l := ⟨h.row.below hb, h.len, h.each⟩
set_option maxRecDepth 100000 in
theorem open_Ints (hv : Value.okWide Try.prog w r b0 54 v) (h : DataW.Trod enc Try.prog w base spare held 54 v d p) (hF : Fits Try.prog 54 d) :
    ∃ (A : Option Addr) (l : List Int) (cap : Nat), v = .slice A l.length cap ∧ IntsOk w A l ∧ l.length ≤ cap := by
  obtain ⟨a, len, cap, rfl⟩ := okWide_slice Try.underlying54 hv
  obtain ⟨fuel, hf⟩ := h
  obtain ⟨A, l, cap', e, h1, h2, h3, h4, _⟩ := open_rowC intCells 1 (fun _ => rfl) (by omega) (fun n => -9223372036854775808 ≤ n ∧ n ≤ 9223372036854775807) Try.underlying54 (by decide +kernel) (by kernel_rfl) (fun cs' _ _ hl ht _ => by
    obtain ⟨x, rfl⟩ := list1 hl
    obtain ⟨n, e1, _, hn⟩ := DataW.trod_int Try.underlying3 ht
    injection e1 with e1 _
    subst e1
    exact ⟨n, rfl, wf_i64 hn⟩) hf hF
  exact ⟨A, l, cap', e, ⟨h3, h1, h2⟩, h4⟩
end

end Go.Proofs.Ytpmjgkngkaleeaa
