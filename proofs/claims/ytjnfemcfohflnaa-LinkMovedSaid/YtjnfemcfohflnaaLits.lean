import Derived.Test.YtjnfemcfohflnaaAllW
/- What the laws begin with: kernel(), lib(), app(), pair(). -/
namespace Go.Proofs.Ytjnfemcfohflnaa
open Go.RowKit

theorem row_block {α : Type} {enc : α → List Value} {k : Nat} (hk : ∀ x, (enc x).length = k) {w : World} {b : Nat} {cs : Array Value} {t : TypeId} {l : List α} (h : w.heap[b]? = some (.cells cs t (0, 0))) (hc : cs.toList = l.flatMap enc) : Row enc k w (some ⟨b, 0, none⟩) l := by
  have hlt : b < w.heap.size := by
    rcases Nat.lt_or_ge b w.heap.size with hlt | hge
    · exact hlt
    · rw [Array.getElem?_eq_none hge] at h; cases h
  refine ⟨by rw [flat_length hk], fun _ => ⟨_, rfl, hlt, fun j u hu => ?_⟩⟩
  have e : (⟨b, 0, none⟩ : Addr).add j = ⟨b, j, none⟩ := by unfold Addr.add; split <;> simp_all
  rw [e, cell_of_row _ _ _ _ _ _ h, ← hu, ← hc]
  simp

def kern (A : Option Addr) (c : Nat) : Krn := ⟨0, 0, [⟨⟨#[107]⟩, 2⟩], A, c⟩
def libM (eA iA pA : Option Addr) (eC iC pC : Nat) : Mod := ⟨⟨#[108, 105, 98]⟩, 1, 2, ⟨#[97, 98, 99, 100, 101, 102, 103, 104]⟩, [⟨⟨#[102]⟩, 4⟩], [], [], eA, eC, iA, iC, pA, pC⟩
def appM (eA iA pA : Option Addr) (eC iC pC : Nat) : Mod := ⟨⟨#[97, 112, 112]⟩, 0, 0, ⟨#[46, 46, 46, 46, 46, 46, 46, 46]⟩, [], [⟨⟨#[108, 105, 98]⟩, ⟨#[102]⟩, 1, 1⟩, ⟨kernelBytes, ⟨#[107]⟩, 0, 0⟩], [⟨1, 0, 0, 1⟩, ⟨5, 4, 1, 0⟩], eA, eC, iA, iC, pA, pC⟩

theorem Try.sizeKernel : (Try.prog.info? 24).map (·.size) = some 3 := by kernel_rfl
theorem Try.sizeModule : (Try.prog.info? 34).map (·.size) = some 7 := by kernel_rfl

set_option maxHeartbeats 1000000 in
set_option maxRecDepth 100000 in
theorem kernel_any (w : World) : Calls Try.prog 14 #[] w fun e w' => (∃ A c, e = .returned (kern A c).v ∧ (kern A c).ok w') ∧ Below w.heap.size w w' := by
  go_enter Try.func14, Try.ntmps14
  go_wp2_with fail
  try simp only [Exit.inBlock, Exit.then]
  have h0 := heap_alloc2_old w (.cells #[.int .i64 0, .int .i64 0, .slice (some ⟨w.heap.size + 1, 0, none⟩) 1 1] 24) (.cells #[.string ⟨#[107]⟩, .int .i64 2] 72)
  have h1 := heap_alloc2_new w (.cells #[.int .i64 0, .int .i64 0, .slice (some ⟨w.heap.size + 1, 0, none⟩) 1 1] 24) (.cells #[.string ⟨#[107]⟩, .int .i64 2] 72)
  refine bodyPost_ret (results_cell_row rfl _ _ w.heap.size 24 _ (0, 0) _ rfl h0 Try.underlying24 rfl Try.sizeKernel) rfl ?_
  refine ⟨⟨some ⟨w.heap.size + 1, 0, none⟩, 1, rfl, ⟨row_block (enc := Exp.cells) (k := 2) (fun _ => rfl) h1 rfl, by unfold big kern; simp, ?_⟩⟩, ((Below.refl _ _).alloc (Nat.le_refl _) _).alloc (by simp) _⟩
  intro x hx
  simp only [kern, List.mem_singleton] at hx
  subst hx
  unfold big; decide

set_option maxHeartbeats 1000000 in
set_option maxRecDepth 100000 in
theorem lib_any (w : World) : Calls Try.prog 26 #[] w fun e w' => (∃ eA iA pA eC iC pC, e = .returned (libM eA iA pA eC iC pC).v ∧ (libM eA iA pA eC iC pC).ok w') ∧ Below w.heap.size w w' := by
  go_enter Try.func26, Try.ntmps26
  go_wp2_with fail
  try simp only [Exit.inBlock, Exit.then]
  have h0 := fun cs => heap_alloc2_old w (.cells cs 34) (.cells #[.string ⟨#[102]⟩, .int .i64 4] 72)
  have h1 := fun cs => heap_alloc2_new w (.cells cs 34) (.cells #[.string ⟨#[102]⟩, .int .i64 4] 72)
  refine bodyPost_ret (results_cell_row rfl _ _ w.heap.size 34 _ (0, 0) _ rfl (h0 _) Try.underlying34 rfl Try.sizeModule) rfl ?_
  refine ⟨⟨some ⟨w.heap.size + 1, 0, none⟩, none, none, 1, 0, 0, rfl, ⟨⟨row_block (enc := Exp.cells) (k := 2) (fun _ => rfl) (h1 _) rfl, by unfold big libM; simp, ?_⟩, ⟨Row.nil, by unfold big libM; simp, by simp [libM]⟩, ⟨Row.nil, by unfold big libM; simp⟩, by show (⟨#[108, 105, 98]⟩ : ByteArray).size ≤ big; decide, by show (⟨#[97, 98, 99, 100, 101, 102, 103, 104]⟩ : ByteArray).size ≤ big; decide⟩⟩, ((Below.refl _ _).alloc (Nat.le_refl _) _).alloc (by simp) _⟩
  intro x hx
  simp only [libM, List.mem_singleton] at hx
  subst hx
  unfold big; decide

theorem heap_alloc3_mid (w : World) (A B C : Obj) : (((w.alloc A).alloc B).alloc C).heap[w.heap.size + 1]? = some B := by
  rw [Below.heap_alloc _ _ _ (by simp)]; exact heap_alloc2_new w A B
theorem heap_alloc3_old (w : World) (A B C : Obj) : (((w.alloc A).alloc B).alloc C).heap[w.heap.size]? = some A := by
  rw [Below.heap_alloc _ _ _ (by simp; omega)]; exact heap_alloc2_old w A B
theorem heap_alloc3_new (w : World) (A B C : Obj) : (((w.alloc A).alloc B).alloc C).heap[w.heap.size + 1 + 1]? = some C := by
  have := heap_alloc_new ((w.alloc A).alloc B) C
  simpa using this

set_option maxHeartbeats 1000000 in
set_option maxRecDepth 100000 in
theorem app_any (w : World) : Calls Try.prog 25 #[] w fun e w' => (∃ eA iA pA eC iC pC, e = .returned (appM eA iA pA eC iC pC).v ∧ (appM eA iA pA eC iC pC).ok w') ∧ Below w.heap.size w w' := by
  go_enter Try.func25, Try.ntmps25
  go_wp2_with fail
  try simp only [Exit.inBlock, Exit.then]
  have h0 := fun a b c => heap_alloc3_old w (.cells a 34) (.cells b 83) (.cells c 39)
  have h1 := fun a b c => heap_alloc3_mid w (.cells a 34) (.cells b 83) (.cells c 39)
  have h2 := fun a b c => heap_alloc3_new w (.cells a 34) (.cells b 83) (.cells c 39)
  refine bodyPost_ret (results_cell_row rfl _ _ w.heap.size 34 _ (0, 0) _ rfl (h0 _ _ _) Try.underlying34 rfl Try.sizeModule) rfl ?_
  refine ⟨⟨none, some ⟨w.heap.size + 1, 0, none⟩, some ⟨w.heap.size + 1 + 1, 0, none⟩, 0, 2, 2, rfl, ⟨⟨Row.nil, by unfold big appM; simp, by simp [appM]⟩, ⟨row_block (enc := Imp.cells) (k := 4) (fun _ => rfl) (h1 _ _ _) rfl, by unfold big appM; simp, ?_⟩, ⟨row_block (enc := Pat.cells) (k := 4) (fun _ => rfl) (h2 _ _ _) rfl, by unfold big appM; simp⟩, by show (⟨#[97, 112, 112]⟩ : ByteArray).size ≤ big; decide, by show (⟨#[46, 46, 46, 46, 46, 46, 46, 46]⟩ : ByteArray).size ≤ big; decide⟩⟩, (((Below.refl _ _).alloc (Nat.le_refl _) _).alloc (by simp) _).alloc (by simp; omega) _⟩
  intro x hx
  simp only [appM, List.mem_cons, List.not_mem_nil, or_false] at hx
  rcases hx with rfl | rfl <;> (unfold big; decide)

set_option maxHeartbeats 1000000 in
set_option maxRecDepth 100000 in
theorem pair_any (w : World) : Calls Try.prog 15 #[] w fun e w' => (∃ A c a1 a2 a3 a4 a5 a6 b1 b2 b3 b4 b5 b6, e = .returned (.slice A 2 c) ∧ PlsOk w' A [⟨appM a1 a2 a3 a4 a5 a6, 1⟩, ⟨libM b1 b2 b3 b4 b5 b6, 4⟩]) ∧ Below w.heap.size w w' := by
  go_enter Try.func15, Try.ntmps15
  go_wp2_with (first | (go_at_call 25; refine (app_any _).mono ?_; rintro e w1 ⟨⟨a1, a2, a3, a4, a5, a6, rfl, hok1⟩, hb1⟩) | (go_at_call 26; refine (lib_any _).mono ?_; rintro e w2 ⟨⟨b1, b2, b3, b4, b5, b6, rfl, hok2⟩, hb2⟩))
  go_ret
  have hs1 := hb1.size
  have hs2 := hb2.size
  have hb3 := fun cs => (Below.refl w2.heap.size w2).alloc (Nat.le_refl _) (.cells cs 36)
  refine ⟨⟨some ⟨w2.heap.size, 0, none⟩, 2, a1, a2, a3, a4, a5, a6, b1, b2, b3, b4, b5, b6, rfl, row_block (enc := Plc.cells) (k := 8) (fun _ => rfl) (heap_alloc_new w2 _) rfl, by unfold big; simp, ?_⟩, (hb1.trans (hb2.mono hs1)).trans ((hb3 _).mono (by omega))⟩
  intro x hx
  simp only [List.mem_cons, List.not_mem_nil, or_false] at hx
  rcases hx with rfl | rfl
  · exact (hok1.below hb2).below (hb3 _)
  · exact hok2.below (hb3 _)

end Go.Proofs.Ytjnfemcfohflnaa
