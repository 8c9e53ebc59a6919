import Derived.Test.YtjnfemcfohflnaaBase
import Derived.ProofKit
import Derived.OpenShut
import Derived.SizedLaws
import Derived.Lib.SmallJoins
/- The step from a law's walk ('it returns true; what lay before lies as it lay') to the given row. -/
namespace Go.Proofs.Ytjnfemcfohflnaa
open Go.ChangeShapes Go.WideShapes Go.ChangeAt Go.RowKit

theorem Try.own : ownKnob Try.prog.godebug = none := by kernel_rfl
theorem Try.laidOut : laidOutB Try.prog = true := by kernel_rfl

section
variable {H : Type} {enc : TypeId × Value → H} {P : Program}

theorem trodAll_below (hl : laidOutB P = true) {W W' : World} (hb : Below W.heap.size W W') : ∀ {ts : List TypeId} {vs : List Value} {ds : List (DataW H)} {ps : List MemPlace},
    (∀ t ∈ ts, P.readableRec t = true ∧ t < P.types.size) → DataW.TrodAll enc P W 0 (fun _ => true) true ts vs ds ps → (∀ x ∈ ps, x.block < W.heap.size) →
    DataW.TrodAll enc P W' 0 (fun b => decide (b < W.heap.size)) true ts vs ds ps
  | [], vs, ds, ps, _, h, _ => by
    obtain ⟨rfl, rfl, rfl⟩ := trodAll_nil h
    exact trodAll_mk0
  | t :: ts, vs, ds, ps, hr, h, hlt => by
    obtain ⟨v, vs', d, ds', p, q, rfl, rfl, rfl, h0, r0⟩ := trodAll_cons h
    have hrt := hr t (by simp)
    exact trodAll_cons_mk (Below.trod hl hrt.1 hrt.2 h0 hb (fun x hx => hlt x (by simp [hx]))) (trodAll_below hl hb (fun t ht => hr t (by simp [ht])) r0 (fun x hx => hlt x (by simp [hx])))

/-- a law's last step: it has returned true, and what lay before lies as it lay -/
theorem law_post {f : Func} {s : ChangeSpec} {W W' : World} {args : Array Value} {ds gs : List (DataW H)} {before : List MemPlace} {tb : TypeId}
    (hl : laidOutB P = true) (hW : DataW.Whole enc P f.params.toList s.vars false W args.toList ds gs before) (hv : s.vars = []) (hr : ∀ t ∈ f.params.toList, P.readableRec t = true ∧ t < P.types.size)
    (hf : f.resultTypes = #[tb]) (hb : P.underlying tb = some .bool) (h1 : (s.fn H (ds ++ gs)).results = [.lit (.bool true)]) (h2 : (s.fn H (ds ++ gs)).args = ds) (h3 : (s.fn H (ds ++ gs)).vars = [])
    (hbel : Below W.heap.size W W') : s.post enc P f false true false false W args (.bool true) W' := by
  have hlt : ∀ p ∈ before, p.block < W.heap.size := fun p hp => hW.lt p hp
  have hW' := hW
  obtain ⟨p, q, hA, hV, rfl, hfz, hnd⟩ := hW
  rw [hv] at hV
  obtain ⟨rfl, rfl⟩ := trodVars_none hV
  refine ⟨ds, [], _, [], p, [], hW', ?_, ?_, ?_, hbel.frame _, fun h => by cases h⟩
  · rw [h1, hf]; exact trodAll_cons_mk (shut_bool hb true) trodAll_mk0
  · rw [h2]; exact trodAll_below hl hbel hr hA (fun x hx => hlt x (by simp [hx]))
  · rw [h3, hv]; rfl
end
set_option maxRecDepth 100000
theorem Try.cellsPatch : Try.prog.cellsOf 39 = 4 := by kernel_rfl
theorem open_Patch {H : Type} {enc : TypeId × Value → H} {w : World} {base : Nat} {spare : Nat → Bool} {held : Bool} {r : Reach} {b0 : Nat} {v : Value} {d : DataW H} {p : List MemPlace}
    (hv : Value.okWide Try.prog w r b0 39 v) (h : DataW.Trod enc Try.prog w base spare held 39 v d p) :
    ∃ k a y e : Int, v = .agg #[.int .i64 k, .int .i64 a, .int .i64 y, .int .i64 e] := by
  obtain ⟨c0, c1, c2, c3, y0, y1, y2, y3, n, rfl, _, _, h0, h1, h2, h3⟩ := Joins.open_agg4 Try.underlying39 (by kernel_rfl) Try.cellsPatch hv h
  obtain ⟨a0, e0, _⟩ := DataW.trod_int Try.underlying3 h0
  obtain ⟨a1, e1, _⟩ := DataW.trod_int Try.underlying3 h1
  obtain ⟨a2, e2, _⟩ := DataW.trod_int Try.underlying3 h2
  obtain ⟨a3, e3, _⟩ := DataW.trod_int Try.underlying3 h3
  simp only [List.cons.injEq, and_true] at e0 e1 e2 e3
  exact ⟨a0, a1, a2, a3, by rw [e0, e1, e2, e3]⟩
end Go.Proofs.Ytjnfemcfohflnaa
