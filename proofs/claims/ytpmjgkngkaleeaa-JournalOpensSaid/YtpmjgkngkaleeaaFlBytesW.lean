import Derived.Test.YtpmjgkngkaleeaaFlashMem
import Derived.Laws.IdiomStrings
import Derived.Laws.BitsAllLaws
/- A text's bytes in a row of the call's own: made by '[]byte(s)', read and written one by one, made a text again. -/
namespace Go.Proofs.Ytpmjgkngkaleeaa
open Go.RowKit

theorem cell_of_heap {w : World} {b : Nat} {cs : Array Value} {t : TypeId} {fr : Nat × Nat} (h : w.heap[b]? = some (.cells cs t fr)) (o : Nat) : w.cell? ⟨b, o, none⟩ = cs[o]? := by simp [World.cell?, h]
theorem free_of_heap {w : World} {b : Nat} {cs : Array Value} {t : TypeId} (h : w.heap[b]? = some (.cells cs t (0, 0))) (o : Nat) : w.frozen? ⟨b, o, none⟩ = false := by simp [World.frozen?, h]
def u8v (b : UInt8) : Value := .int .u8 (b.toNat : Int)
/-- the block g holds these bytes, as '[]byte(s)' lays them -/
def BytesAt (w : World) (g : Nat) (l : List UInt8) : Prop :=
  ∃ cur : Array Value, w.heap[g]? = some (.cells cur 5 (cur.size, cur.size + 1)) ∧ l.length ≤ cur.size ∧ cur.toList.take l.length = l.map u8v
section
variable {w w' : World} {g : Nat} {l : List UInt8}
theorem BytesAt.lt (h : BytesAt w g l) : g < w.heap.size := by
  obtain ⟨cur, h1, _⟩ := h
  exact (Array.getElem?_eq_some_iff.1 h1).1
theorem BytesAt.kept (h : BytesAt w g l) (e : w'.heap[g]? = w.heap[g]?) : BytesAt w' g l := by
  obtain ⟨cur, h1, h2⟩ := h
  exact ⟨cur, e.trans h1, h2⟩
theorem BytesAt.cell (h : BytesAt w g l) (j : Nat) (hj : j < l.length) : w.cell? ⟨g, j, none⟩ = some (.int .u8 ((l[j]'hj).toNat : Int)) := by
  obtain ⟨cur, h1, h2, h3⟩ := h
  have h4 : (cur.toList.take l.length)[j]? = some (u8v (l[j]'hj)) := by
    rw [h3, List.getElem?_map, List.getElem?_eq_getElem hj]; rfl
  rw [List.getElem?_take_of_lt hj] at h4
  simp only [World.cell?, h1]
  simpa [u8v] using h4
theorem BytesAt.cellD (h : BytesAt w g l) (j : Nat) (hj : j < l.length) : w.cell? ⟨g, j, none⟩ = some (.int .u8 ((l.getD j 0).toNat : Int)) := by
  rw [h.cell j hj, List.getD_eq_getElem?_getD, List.getElem?_eq_getElem hj]; rfl
theorem BytesAt.free (h : BytesAt w g l) (j : Nat) (hj : j < l.length) : w.frozen? ⟨g, j, none⟩ = false := by
  obtain ⟨cur, h1, h2, h3⟩ := h
  simp only [World.frozen?, h1]
  simp
  omega
theorem BytesAt.set (h : BytesAt w g l) (j : Nat) (x : UInt8) : BytesAt (w.setCell ⟨g, j, none⟩ (.int .u8 (x.toNat : Int))) g (l.set j x) := by
  obtain ⟨cur, h1, h2, h3⟩ := h
  refine ⟨cur.setIfInBounds j (u8v x), ?_, by simpa using h2, ?_⟩
  · simp [World.setCell, Array.getElem?_modify, h1, u8v]
  · rw [Array.toList_setIfInBounds, List.take_set, List.length_set, h3, List.map_set]
theorem BytesAt.setN (h : BytesAt w g l) (j : Nat) (n : Nat) (hn : n < 256) : BytesAt (w.setCell ⟨g, j, none⟩ (.int .u8 (n : Int))) g (l.set j (UInt8.ofNat n)) := by
  have := h.set j (UInt8.ofNat n)
  rwa [show (UInt8.ofNat n).toNat = n from by simp [Nat.mod_eq_of_lt hn]] at this
theorem bytesRow_take (s : ByteArray) (cap : Nat) : s.size ≤ (bytesRow s cap).size ∧ (bytesRow s cap).toList.take s.size = (bytesOf s).map u8v := by
  obtain ⟨d⟩ := s
  show d.size ≤ _ ∧ List.take d.size _ = List.map u8v d.toList
  unfold bytesRow
  constructor
  · rw [Array.size_append, Array.size_map]; exact Nat.le_add_right _ _
  · rw [Array.toList_append, Array.toList_map]
    rw [List.take_append_of_le_length (by simp), List.take_of_length_le (by simp)]
    rfl
end
/-- '[]byte(s)': an equation for every world -/
theorem bytes_of_str (s : ByteArray) : ∃ (F : World → World) (C : World → Nat), ∀ W, (convert 9 63 (.string s)).run Try.prog W = .ok (.slice (some ⟨W.heap.size, 0, none⟩) s.size (C W)) (F W) ∧
    s.size ≤ C W ∧ BytesAt (F W) W.heap.size (bytesOf s) ∧ Below W.heap.size W (F W) := by
  refine ⟨fun W => W.drew.alloc (.cells (bytesRow s (grownCap W s.size 0 5)) 5 ((bytesRow s (grownCap W s.size 0 5)).size, (bytesRow s (grownCap W s.size 0 5)).size + 1)), fun W => grownCap W s.size 0 5, fun W => ⟨run_bytes_of_string (P := Try.prog) W 9 63 5 s Try.underlying9 Try.underlying63 Try.underlying5, grownCap_ge W s.size 0 5, ?_, ?_⟩⟩
  · refine ⟨bytesRow s (grownCap W s.size 0 5), ?_, ?_⟩
    · show (W.heap.push _)[W.heap.size]? = _
      simp
    · rw [bytes_length]; exact bytesRow_take s _
  · exact (Below.refl _ _).trans ⟨rfl, rfl, rfl, by show W.heap.size ≤ (W.heap.push _).size; rw [Array.size_push]; exact Nat.le_succ _, fun k hk => by
      show (W.heap.push _)[k]? = _
      rw [Array.getElem?_push_lt hk, Array.getElem?_eq_getElem hk]⟩
/-- 'string(b)' -/
theorem str_of_bytes (W : World) (g n cap : Nat) (l : List UInt8) (hl : l.length = n) (hb : BytesAt W g l) :
    (convert 63 9 (.slice (some ⟨g, 0, none⟩) n cap)).run Try.prog W = .ok (.string (ofBytes l)) W := by
  subst hl
  exact run_convert_bytes_back (P := Try.prog) W 63 9 5 ⟨g, 0, none⟩ cap l Try.underlying63 Try.underlying5 Try.underlying9 (fun j hj => by
    have := hb.cell j hj
    rw [show (⟨g, 0, none⟩ : Addr).add j = ⟨g, j, none⟩ from by unfold Addr.add; split <;> simp_all]
    exact this)

end Go.Proofs.Ytpmjgkngkaleeaa
