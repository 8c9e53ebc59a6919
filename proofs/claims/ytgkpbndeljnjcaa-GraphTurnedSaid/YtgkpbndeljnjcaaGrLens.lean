import Derived.Test.YtgkpbndeljnjcaaRGrW
/- How many texts there are at most (chapter E); equal rows are told the same. -/
namespace Go.Proofs.Ytgkpbndeljnjcaa
open Go.RowKit
open Gs (Tx)

theorem reachT_len (l : List Plc) (r : Tx → Tx → Bool) (a : Tx) : (reachT l r a).length ≤ l.length := by
  unfold reachT
  have := List.length_filter_le (fun x => decide (x ∈ Gr.visit (Gs.msort (txs l)) r (l.length + 1) [] a)) (Gs.msort (txs l))
  rw [msort_length, txs_length] at this
  exact this
theorem needsT_len (l : List Plc) (nm : ByteArray) : (needsT l nm).length ≤ l.length := by
  unfold needsT; split
  · simp
  · exact reachT_len _ _ _
theorem usersT_len (l : List Plc) (nm : ByteArray) : (usersT l nm).length ≤ l.length := by
  unfold usersT; split
  · simp
  · exact reachT_len _ _ _
theorem order_len {r : Tx → Tx → Bool} : ∀ (f : Nat) (left out c : List Tx), Gs.order r f left out = some c → c.length = out.length + f
  | 0, left, out, c, h => by unfold Gs.order at h; cases h; rfl
  | f + 1, left, out, c, h => by
    unfold Gs.order at h
    split at h
    · have := order_len f _ _ c h
      rw [this, List.length_append]; simp; omega
    · cases h
theorem orderT_len (l : List Plc) : (orderT l).length ≤ l.length := by
  unfold orderT; split
  · simp
  · cases e : sortedT l with
    | none => simp
    | some c =>
      have := order_len _ _ _ _ e
      simp only [Option.getD_some]
      rw [this]; simp
theorem same_any (A B : Option Addr) (c d m : Nat) (L : List Tx) (hm : L.length = m) (W : World) (h : TxRow W A L) (h' : TxRow W B L) (hl : L.length ≤ big) :
    Calls Try.prog 18 #[.slice A m c, .slice B m d] W fun e w' => e = .returned (.bool true) ∧ Below W.heap.size W w' := by
  subst hm
  refine (SameTexts_any A B c d L L W h h' hl hl).mono ?_
  rintro e w' ⟨he, hb⟩
  exact ⟨by rw [he]; simp, hb⟩
theorem TxRow.nil (W : World) : TxRow W none [] := Row.nil

end Go.Proofs.Ytgkpbndeljnjcaa
