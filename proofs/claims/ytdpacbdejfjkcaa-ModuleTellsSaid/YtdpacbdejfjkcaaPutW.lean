import Derived.Test.YtdpacbdejfjkcaaBuildW
import Derived.Test.YtdpacbdejfjkcaaEncPure
import Derived.Test.YtdpacbdejfjkcaaBytesW
import Derived.Test.YtdpacbdejfjkcaaMem
import Derived.Deep.RegionWith
/- The writer of a module's bytes: put, name (chapter B). -/
namespace Go.Proofs.Ytdpacbdejfjkcaa
open Go.RowKit

theorem holdsW : Holds 114 := ⟨by kernel_rfl, by decide⟩
abbrev Wr (b : Nat) (l : List UInt8) (w : World) : Prop := Bld 114 b l w
theorem Kept.heap {b k : Nat} {w w' : World} {cs : Array Value} {t : TypeId} {fr : Nat × Nat} (h : Kept b w w') (hk : w.heap[k]? = some (.cells cs t fr)) (hb : k ≠ b) (ht : t ≠ 5) : w'.heap[k]? = some (.cells cs t fr) :=
  h k _ hk (fun e => hb (Option.some.inj e)) (fun c fz e => by injection e with _ h2 _; exact ht h2)
theorem Bld.below {T b : Nat} {l : List UInt8} {w w' : World} (h : Bld T b l w) (hb : Below w.heap.size w w') : Bld T b l w' := by
  have key : ∀ p, Lib.BuilderAt T 5 b b p (Lib.byteCells l) w → Lib.BuilderAt T 5 b b p (Lib.byteCells l) w' := fun p ⟨hB, v, hbk, hown, hne⟩ => by
    have hlt : b < w.heap.size := (Array.getElem?_eq_some_iff.1 hbk).1
    refine ⟨hB, v, (hb.block b hlt).trans hbk, ⟨hown.1, ?_⟩, hne⟩
    rcases hown.2 with h0 | ⟨g, cap, cur, e1, e2, e3, e4⟩
    · exact .inl h0
    · exact .inr ⟨g, cap, cur, e1, e2, (hb.block g (Array.getElem?_eq_some_iff.1 e3).1).trans e3, e4⟩
  rcases h with h | h
  · exact .inl (key _ h)
  · exact .inr (key _ h)
theorem Kept.of_below {b : Nat} {w w' : World} (h : Below w.heap.size w w') : Kept b w w' := fun k _ hk _ _ => (h.block k (Array.getElem?_eq_some_iff.1 hk).1).trans hk
theorem Bld.lt {T b : Nat} {l : List UInt8} {w : World} (h : Bld T b l w) : b < w.heap.size := by
  rcases h with h | h <;> exact h.lt

set_option maxHeartbeats 2000000 in
set_option maxRecDepth 100000 in
theorem put_any (b g c k : Nat) (ns : List Int) (l : List UInt8) (w : World) (h : Wr b l w) (hg : w.heap[g]? = some (.cells (ns.map iv).toArray 3 (0, 0))) (hgb : g ≠ b) (hk : k ≤ 4) (hlen : l.length + ns.length * 4 ≤ 90000) :
    Calls Try.prog 88 #[.pointer (some ⟨b, 0, none⟩), .int .i64 k, .slice (some ⟨g, 0, none⟩) ns.length c] w fun e w' => (∃ u, e = .returned u) ∧ Wr b (l ++ ns.flatMap fun n => digits n k) w' ∧ Below b w w' ∧ Kept b w w' := by
  have H := Lib.hid h
  have HG := Lib.hid hg
  clear h hg
  go_enter Try.func88, Try.ntmps88
  go_wp2_with fail
  go_loopw [10] (fun i wr => ∃ (j : Nat), j ≤ ns.length ∧ i = .int .i64 j ∧ Wr b (l ++ (ns.take j).flatMap fun n => digits n k) wr ∧ Below b w wr ∧ Kept b w wr) (fun i _ => ns.length - (intOf i).toNat)
  case atStart => exact ⟨0, by omega, rfl, by simpa using H.out, Below.refl _ _, Lib.OthersKept.refl _ _ _⟩
  case round =>
    obtain ⟨j, hj, rfl, hw, hb, hkp⟩ := hrel
    have HW := Lib.hid hw
    have HB := Lib.hid hb
    have HK := Lib.hid hkp
    by_cases hlt : j < ns.length
    · have hlt' : (j : Int) < ns.length := by omega
      have hgr := hkp.heap HG.out hgb (by decide)
      have c0 : wr.cell? ⟨g, j, none⟩ = some (.int .i64 ns[j]) := by
        rw [Lib.cell_of_heap hgr]
        simp [hlt]
      have e1 := flat_take (f := fun n => digits n k) hlt
      have hfl := flat_le (f := fun n => digits n k) (K := 4) (l := ns.take j) (fun x _ => by rw [digits_length]; exact hk)
      rw [List.length_take] at hfl
      have hmin : min j ns.length = j := by omega
      rw [hmin] at hfl
      obtain ⟨n, hn⟩ : ∃ n, n = ns[j] := ⟨_, rfl⟩
      rw [← hn] at c0 e1
      have HE := Lib.hid e1
      have hd := digits_length n k
      have hbw := hw.lt
      have cB := Lib.hid (fun W => Bytes_any n k W hk)
      have cW := Lib.hid (fun W hW => WriteString_any 114 b holdsW (l ++ (ns.take j).flatMap fun n => digits n k) ⟨(digits n k).toArray⟩ W hW (by
        have : (⟨(digits n k).toArray⟩ : ByteArray).size = k := by show (digits n k).toArray.size = k; simpa using hd
        rw [this, List.length_append]; omega))
      clear hw hb hkp hgr hn e1 hfl hmin hd
      go_wp2_with fail
      go_region_with (first | (go_at_call 103; refine (cB.out _).mono ?_; rintro e w2 ⟨rfl, hb2⟩; have hs2 : wr.heap.size ≤ w2.heap.size := hb2.size; have HW2 := Lib.hid (Bld.below (w := wr.drew) HW.out hb2)) | (go_at_call 89; refine (cW.out _ HW2.out).mono ?_; rintro e w3 ⟨⟨u, rfl⟩, h3, hb3, hk3⟩))
      all_goals (
        have B3 := Lib.hid ((HB.out.drew.trans (hb2.mono (show b ≤ wr.heap.size by omega))).trans hb3)
        have K3 := Lib.hid ((HK.out.drew.trans (Kept.of_below hb2)).trans hk3)
        have H3 := Lib.hid h3
        clear hb3 hk3 h3
        go_wp2_with fail
        go_roundw
        case rel => exact ⟨j + 1, by omega, by go_num, by rw [HE.out, ← List.append_assoc]; exact H3.out, B3.out, K3.out⟩
        case measure => (simp [intOf]; try omega))
    · have e0 : ns.take j = ns := List.take_of_length_le (by omega)
      rw [e0] at HW
      go_wp2_with fail
      go_end0
      exact ⟨⟨_, rfl⟩, HW.out, HB.out, HK.out⟩


set_option maxHeartbeats 2000000 in
set_option maxRecDepth 100000 in
theorem wname_any (b : Nat) (s : ByteArray) (l : List UInt8) (w : World) (h : Wr b l w) (hlen : l.length + s.size ≤ 80000) :
    Calls Try.prog 87 #[.pointer (some ⟨b, 0, none⟩), .string s] w fun e w' => (∃ u, e = .returned u) ∧ Wr b (l ++ encName s) w' ∧ Below b w w' ∧ Kept b w w' := by
  have hbl := h.lt
  obtain ⟨w0, hw0⟩ : ∃ w0, w0 = w.alloc (.cells #[.int .i64 s.size] 3) := ⟨_, rfl⟩
  have hb0 : Below w.heap.size w w0 := by subst hw0; exact (Below.refl _ _).alloc (Nat.le_refl _) _
  have hg : w0.heap[w.heap.size]? = some (.cells #[.int .i64 s.size] 3 (0, 0)) := by subst hw0; exact heap_alloc_new _ _
  have hw0' := hw0.symm
  have cP := Lib.hid (put_any b w.heap.size 1 1 [(s.size : Int)] l w0 (h.below hb0) hg (by omega) (by omega) (by simp; omega))
  have cW := Lib.hid (fun W hW => WriteString_any 114 b holdsW (l ++ [(s.size : Int)].flatMap fun n => digits n 1) s W hW (by
    simp only [List.flatMap_cons, List.flatMap_nil, List.append_nil, List.length_append, digits_length]; omega))
  have HE := Lib.hid (show (l ++ [(s.size : Int)].flatMap fun n => digits n 1) ++ s.data.toList = l ++ encName s by simp [encName])
  have HB := Lib.hid hb0
  clear hw0 hb0 hg h
  go_enter Try.func87, Try.ntmps87
  go_wp2_with (first | (go_at_call 88; refine (cP.out).mono ?_; rintro e w2 ⟨⟨u, rfl⟩, h2, hb2, hk2⟩; have H2 := Lib.hid h2; clear h2) | (go_at_call 89; refine (cW.out _ H2.out).mono ?_; rintro e w3 ⟨⟨u, rfl⟩, h3, hb3, hk3⟩))
  go_end0
  exact ⟨⟨_, rfl⟩, by rw [← HE.out]; exact h3, ((HB.out.mono (by omega)).trans hb2).trans hb3, ((Kept.of_below HB.out).trans hk2).trans hk3⟩

end Go.Proofs.Ytdpacbdejfjkcaa
