import Derived.Test.YtjnfemcfohflnaaWordW
import Derived.RangeFuncBox
import Derived.RangeFuncLeaves
import Derived.Shelf.Abstract
import Derived.OwnWalkIn
import Derived.TacticsInMore
import Derived.LoopNIn
import Derived.LoopIn
import Derived.Maps.AppendAt
/- word.Bytes: a range over a function that keeps the number in a captured variable. -/
namespace Go.Proofs.Ytjnfemcfohflnaa
open Go.RowKit Go.Shelf

attribute [local go_sem] Oper.semAt_some

set_option maxHeartbeats 400000 in
theorem each_any (n k : Int) (w : World) :
    Calls Try.prog 83 #[.int .i64 k, .int .i64 n] w fun e w' => e = .returned (.func (.func 90) #[] #[.pointer (some ⟨w.heap.size, 0, none⟩), .pointer (some ⟨w.heap.size + 1, 0, none⟩)]) ∧ (w.alloc (.cells #[.int .i64 k] 3)).alloc (.cells #[.int .i64 n] 3) = w' := by
  go_enter Try.func83, Try.ntmps83
  go_wp2_with fail
  go_ret
  exact ⟨rfl, rfl⟩

set_option maxRecDepth 100000 in
set_option maxHeartbeats 1000000 in
/-- the iterator: for every loop body that keeps the two captured variables -/
theorem each1_in (m l Bb Bn : Nat) (n : Int) (k : Nat) (hk : k ≤ 4) (J : List UInt8 → World → Prop)
    (hset : ∀ pre W v, J pre W → J pre (W.setCell ⟨Bn, 0, none⟩ v)) (hne : Bb ≠ Bn)
    (hY : ∀ pre x W, J pre W → pre.length < k → YieldAt Fence.wide (m - 1) Try.prog l #[byteV x] W fun e W' =>
      e = .returned (.bool true) ∧ J (pre ++ [x]) W' ∧ W'.heap[Bb]? = W.heap[Bb]? ∧ W'.heap[Bn]? = W.heap[Bn]?)
    (W : World) (hb : Boxed W Bb 3 (.int .i64 k)) (hn : Boxed W Bn 3 (.int .i64 n)) (h0 : J [] W) :
    CallsIn Fence.wide m Try.prog 90 #[.func (.yield l) #[] #[], .pointer (some ⟨Bb, 0, none⟩), .pointer (some ⟨Bn, 0, none⟩)] W fun e W' => (∃ v, e = .returned v) ∧ J (digits n k) W' := by
  refine callsIn_of_wp Try.func90 rfl trivial ?_ rfl
  simp only [Try.ntmps90, List.size_toArray, List.length_cons, List.length_nil, Nat.reduceAdd, Nat.reduceSub, Array.replicate_succ, Array.replicate_zero, List.push_toArray, List.append_toArray, List.nil_append, List.cons_append]
  have hbc := hb.cell
  have hnc := hn.cell
  gi_wp2
  gi_loopw [5] (fun i wr => ∃ j : Nat, j ≤ k ∧ i = .int .i64 j ∧ Boxed wr Bb 3 (.int .i64 k) ∧ Boxed wr Bn 3 (.int .i64 (n / p256 j)) ∧ J (digits n j) wr) (fun i _ => k - (intOf i).toNat)
  case atStart => exact ⟨0, by omega, rfl, hb, by simpa [p256] using hn, h0⟩
  case round =>
    obtain ⟨j, hj, rfl, hbr, hnr, hJ⟩ := hrel
    clear hb hn h0 hbc hnc
    by_cases hlt : j < k
    · have hnc := hnr.cell
      have hnf := hnr.frozen
      obtain ⟨x, hx⟩ : ∃ x : UInt8, x = UInt8.ofNat (n / p256 j % 256).toNat := ⟨_, rfl⟩
      have hxv : byteV x = .int .u8 (n / p256 j % 256) := by
        rw [hx, byteV, ofNat_mod]
      have HS := Lib.hid (p256_step n j)
      have HD := Lib.hid (digits_snoc n j)
      rw [← hx] at HD
      have HX := Lib.hid hx
      obtain ⟨fn, tmps, assign, body, hy, hR⟩ := hY (digits n j) x wr hJ (by rw [digits_length]; exact hlt)
      rw [hxv] at hy
      clear hx hxv
      gi_wp2
      refine ⟨fun h => by simp [Fence.wide] at h, hR.mono ?_⟩
      rintro e W3 ⟨rfl, hJ3, hb3, hn3⟩
      have hbr3 : Boxed W3 Bb 3 (.int .i64 k) := hb3.trans hbr
      have hnr3 : Boxed W3 Bn 3 (.int .i64 (n / p256 j)) := hn3.trans hnr
      clear hnc hnf
      have hnc := hnr3.cell
      have hnf := hnr3.frozen
      gi_wp2
      go_roundw
      case rel =>
        refine ⟨j + 1, by omega, by go_num, ?_, ?_, ?_⟩
        · exact (Below.heap_setCell W3 ⟨Bn, 0, none⟩ _ Bb hne).trans hbr3
        · have := hnr3.set (.int .i64 (n / p256 (j + 1)))
          rw [← HS.out] at this ⊢
          exact this
        · rw [HD.out]; exact hset _ _ _ hJ3
      case measure => simp [intOf] <;> omega
    · obtain rfl : j = k := by omega
      gi_wp2
      go_end0
      exact ⟨⟨_, rfl⟩, hJ⟩

/-- a range over a function that keeps its own state in a cell (block Bn), and whose loop body is never left early -/
theorem wpIn_range_state {α : Type} {P : Program} {n : Nat} {g : Operand} {ps : Array Tmp} {assign body : Code} {Q : Exit → Act → World → Prop} {a : Act} {w : World}
    (h1 : 1 ≤ n) {gf : Nat} {lb : Array Value} (hg : a.eval g = .func (.func gf) #[] lb) (eg : ∀ args w, (callFunc gf args).run P w = .ok (.enter gf args) w)
    (encs : α → Array Value) (N : Nat) (xs : List α) (Bb Bn : Nat) (hBb : Bb < w.heap.size) (hBn : Bn < w.heap.size) (hps : ∀ x, (encs x).size = ps.size)
    (hiter : ∀ (l : Nat) (J : List α → World → Prop) (W : World), Below w.heap.size w W → (∀ pre W v, J pre W → J pre (W.setCell ⟨Bn, 0, none⟩ v)) →
      (∀ pre x W, J pre W → pre.length < N → YieldAt Fence.wide (n - 1 - 1) P l (encs x) W fun e W' => e = .returned (.bool true) ∧ J (pre ++ [x]) W' ∧ W'.heap[Bb]? = W.heap[Bb]? ∧ W'.heap[Bn]? = W.heap[Bn]?) →
      J [] W → CallsIn Fence.wide (n - 1) P gf (#[.func (.yield l) #[] #[]] ++ lb) W fun e W' => (∃ v, e = .returned v) ∧ J xs W')
    (I : List α → World → Prop) (hset : ∀ pre W v, I pre W → I pre (W.setCell ⟨Bn, 0, none⟩ v)) (hput : ∀ pre W l o, I pre W → w.heap.size ≤ l → (∃ o', W.heap[l]? = some o' ∧ o'.isCells = false) → I pre (W.putObj l o))
    (hal : ∀ o o', I [] ((w.alloc o).alloc o')) (a₁ : α → Act)
    (hassign : ∀ (l : Nat) (x : α) (W : World) (K : Act → World → Prop), K (a₁ x) W →
      assign.wpIn (Fence.wide.inRound l) (n - 1 - 1) P (Exit.then K (fun _ _ _ => False)) { tmps := (ps.zip (encs x)).foldl (fun t (p, v) => t.setIfInBounds p v) a.tmps, defers := [] } W)
    (hbody : ∀ (l : Nat) (pre : List α) (x : α) (W : World), I pre W → pre.length < N → body.wpIn (Fence.wide.inRound l) (n - 1 - 1) P
      (fun e _ W' => e = .normal ∧ I (pre ++ [x]) W' ∧ KeepsOthers W W' ∧ W'.heap[Bb]? = W.heap[Bb]? ∧ W'.heap[Bn]? = W.heap[Bn]?) (a₁ x) W)
    (hdone : ∀ (D : Nat) (W : World), w.heap.size ≤ D → I xs W → W.heap[D]? = some (.deferred (some [])) → Q .normal { a with defers := { target := .collected D, args := #[] } :: a.defers } W) :
    (Code.rangeFunc g ps assign body).wpIn Fence.wide n P Q a w := by
  refine wpIn_rangeFunc ?_
  intro fn hfn
  obtain ⟨rec, hrec⟩ : ∃ rec : LoopState → Loop, rec = fun st => { state := st, pending := none, fn, tmps := a.tmps, params := ps, assign, body, defers := w.heap.size } := ⟨_, rfl⟩
  obtain ⟨W1, hW1⟩ : ∃ W1, (w.alloc (.deferred (some []))).alloc (.loop (rec .ready)) = W1 := ⟨_, rfl⟩
  have hL1 : W1.heap[w.heap.size + 1]? = some (.loop (rec .ready)) := by
    rw [← hW1]; have := World.alloc_heap_new (w.alloc (.deferred (some []))) (.loop (rec .ready)); rwa [World.size_alloc] at this
  have hK1 : W1.heap[w.heap.size]? = some (.deferred (some [])) := by
    rw [← hW1]; exact (Below.heap_alloc _ _ _ (by simp)).trans (World.alloc_heap_new w _)
  have hb1 : Below w.heap.size w W1 := by rw [← hW1]; exact ((Below.refl _ w).alloc (Nat.le_refl _) _).alloc (by simp) _
  refine ⟨w.heap.size + 1, [{ target := .collected w.heap.size, args := #[] }], W1, { target := .fn (.func gf) lb, args := #[.func (.yield (w.heap.size + 1)) #[] #[]] }, W1, gf,
    #[.func (.yield (w.heap.size + 1)) #[] #[]] ++ lb, W1, ?_, ?_, fun _ _ => trivial, ?_, fun _ => h1, ?_⟩
  · rw [← hW1, hrec]; exact run_enterLoop_outer _ _ _ _ _
  · simp only [resolve, hg]
    simp [go_sem]
  · simp [invoke, go_sem, eg]
  · have hsetO : ∀ (W : World) (k : Nat) (o : Obj) (v : Value), W.heap[k]? = some o → o.isCells = false → (W.setCell ⟨Bn, 0, none⟩ v).heap[k]? = some o :=
      fun W k o v hk ho => (KeepsOthers.setCell W ⟨Bn, 0, none⟩ v).same k o hk ho
    refine (hiter (w.heap.size + 1) (fun pre W => I pre W ∧ W.heap[w.heap.size + 1]? = some (.loop (rec .ready)) ∧ W.heap[w.heap.size]? = some (.deferred (some []))) W1 hb1
      (fun pre W v h => ⟨hset pre W v h.1, hsetO _ _ _ _ h.2.1 rfl, hsetO _ _ _ _ h.2.2 rfl⟩) ?_ ⟨by rw [← hW1]; exact hal _ _, hL1, hK1⟩).mono ?_
    · rintro pre x W ⟨hi, hl, hk⟩ hlen
      have hlt : w.heap.size + 1 < W.heap.size := (Array.getElem?_eq_some_iff.1 hl).1
      have hy := run_yield (P := P) (args := encs x) hl (by rw [hrec]; exact hps x)
      rw [hrec] at hy
      refine ⟨fn, _, assign, body, hy, roundIn_of_wpIn hfn (hassign _ x W _ ⟨_, run_beginRound hl (by rw [hrec]), ?_⟩)⟩
      have hl2 : (W.putObj (w.heap.size + 1) (.loop { rec .ready with state := .busy })).heap[w.heap.size + 1]? = some (.loop { rec .ready with state := .busy }) := World.putObj_heap_same hlt
      have hk2 : (W.putObj (w.heap.size + 1) (.loop { rec .ready with state := .busy })).heap[w.heap.size]? = some (.deferred (some [])) := (World.putObj_heap_other (by omega)).trans hk
      refine wpIn_mono (hbody _ pre x _ (hput _ _ _ _ hi (by omega) ⟨_, hl, rfl⟩) hlen) ?_
      rintro e a3 W3 ⟨rfl, hi3, hk3, hb3, hn3⟩
      have hl3 := hk3.same _ _ hl2 rfl
      have hk4 := hk3.same _ _ hk2 rfl
      have hlt3 : w.heap.size + 1 < W3.heap.size := (Array.getElem?_eq_some_iff.1 hl3).1
      refine ⟨_, _, run_endRound (P := P) none hl3, rfl, ⟨hput _ _ _ _ hi3 (by omega) ⟨_, hl3, rfl⟩, ?_, (World.putObj_heap_other (by omega)).trans hk4⟩, ?_, ?_⟩
      · rw [World.putObj_heap_same hlt3]; rw [hrec]; rfl
      · rw [World.putObj_heap_other (by omega), hb3, World.putObj_heap_other (by omega)]
      · rw [World.putObj_heap_other (by omega), hn3, World.putObj_heap_other (by omega)]
    · rintro e W2 ⟨⟨v, rfl⟩, hi, hl, hk⟩
      exact ⟨none, _, by have := run_endLoop (P := P) hl (by rw [hrec]; simp); rw [hrec] at this; exact this, hdone _ _ (Nat.le_refl _) (hput _ _ _ _ hi (by omega) ⟨_, hl, rfl⟩) ((World.putObj_heap_other (by omega)).trans hk)⟩

theorem Try.infoU8 : (Try.prog.info? 5).map (fun i => (i.zero, i.size, i.bytes)) = some (some (.int .u8 0), 1, 1) := by kernel_rfl

set_option maxRecDepth 100000 in
set_option maxHeartbeats 1000000 in
theorem Bytes_any (n : Int) (k : Nat) (w : World) (hk : k ≤ 4) :
    Calls Try.prog 68 #[.int .i64 n, .int .i64 k] w fun e w' => e = .returned (.string ⟨(digits n k).toArray⟩) ∧ Below w.heap.size w w' := by
  refine (callsIn_wide (n := 3)).1 ?_
  obtain ⟨i0, hi, hz0, hz1, hz2⟩ := info_parts Try.infoU8
  refine callsIn_of_wp_marks Try.func68 rfl trivial ?_ rfl
  simp only [Try.ntmps68, List.size_toArray, List.length_cons, List.length_nil, Nat.reduceAdd, Nat.reduceSub, Array.replicate_succ, Array.replicate_zero, List.push_toArray, List.append_toArray, List.nil_append, List.cons_append]
  gi_wp2
  refine ⟨trivial, (callsIn_wide.2 (each_any _ _ _)).mono ?_⟩
  rintro e w' ⟨rfl, rfl⟩
  gi_wp2
  have bO := ((Boxed.new w 44 (.slice none 0 0)).alloc (.cells #[.int .i64 k] 3)).alloc (.cells #[.int .i64 n] 3)
  have bB := (Boxed.new (w.alloc (.cells #[.slice none 0 0] 44)) 3 (.int .i64 k)).alloc (.cells #[.int .i64 n] 3)
  have bN := Boxed.new ((w.alloc (.cells #[.slice none 0 0] 44)).alloc (.cells #[.int .i64 k] 3)) 3 (.int .i64 n)
  simp only [World.size_alloc] at bB bN
  have hB0 : Below w.heap.size w (((w.alloc (.cells #[.slice none 0 0] 44)).alloc (.cells #[.int .i64 k] 3)).alloc (.cells #[.int .i64 n] 3)) := (((Below.refl _ w).alloc (Nat.le_refl _) _).alloc (by simp) _).alloc (by simp; omega) _
  refine wpIn_range_state (α := UInt8) (by omega) (gf := 90) (lb := #[.pointer (some ⟨w.heap.size + 1, 0, none⟩), .pointer (some ⟨w.heap.size + 1 + 1, 0, none⟩)]) rfl (enters_of Try.func90 (by kernel_rfl) rfl)
    (fun x => #[byteV x]) k (digits n k) (w.heap.size + 1) (w.heap.size + 1 + 1) (by simp) (by simp) (fun _ => rfl)
    (fun l J W hW hJ hY h0 => each1_in _ l _ _ n k hk J hJ (by omega) hY W ((hW.block _ (by simp)).trans bB) ((hW.block _ (by simp)).trans bN) h0)
    (fun pre W => (∃ v, Boxed W w.heap.size 44 v ∧ W.ownsRow w.heap.size 5 1 v pre.length (pre.map byteV)) ∧ (∃ u, Boxed W (w.heap.size + 1) 3 u) ∧ (∃ u, Boxed W (w.heap.size + 1 + 1) 3 u) ∧ Below w.heap.size w W) ?hset ?hput ?hal
    (fun x => { tmps := #[.int .i64 n, .int .i64 k, undef, undef, .string ⟨#[]⟩, .pointer (some ⟨w.heap.size, 0, none⟩), byteV x, .int .i64 k, .int .i64 n, .func (.func 90) #[] #[.pointer (some ⟨w.heap.size + 1, 0, none⟩), .pointer (some ⟨w.heap.size + 1 + 1, 0, none⟩)], byteV x, undef, undef, undef, undef, undef, undef], defers := [] }) ?hassign ?hbody ?hdone
  case hset =>
    rintro pre W v ⟨⟨u, hu, hr⟩, ⟨ub, hbb⟩, ⟨un, hbn⟩, hb⟩
    exact ⟨⟨u, hu.kept (grownBy_setCell' W _ v) (by simp; omega), hr.kept (grownBy_setCell' W _ v) (.inr (hbn.not_row (by decide) hr).symm)⟩, ⟨ub, hbb.kept (grownBy_setCell' W _ v) (by simp)⟩, ⟨v, hbn.set v⟩, hb.setCell (by simp; omega) _⟩
  case hput =>
    rintro pre W l o ⟨⟨u, hu, hr⟩, ⟨ub, hbb⟩, ⟨un, hbn⟩, hb⟩ hl ⟨o', ho', hc'⟩
    have ne : ∀ {b t v}, Boxed W b t v → some b ≠ some l := by
      intro b t v hbx e
      cases e
      rw [show W.heap[l]? = _ from hbx] at ho'; cases ho'; cases hc'
    exact ⟨⟨u, hu.kept (grownBy_putObj' W l o) (ne hu), ownsRow_putObj hr _ ho' hc'⟩, ⟨ub, hbb.kept (grownBy_putObj' W l o) (ne hbb)⟩, ⟨un, hbn.kept (grownBy_putObj' W l o) (ne hbn)⟩,
      hb.trans ⟨rfl, rfl, rfl, by simp, fun k hk => World.putObj_heap_other (by simp at hl; omega)⟩⟩
  case hal =>
    intro o o'
    exact ⟨⟨_, (bO.alloc o).alloc o', World.ownsRow_nil _ _ _ _⟩, ⟨_, (bB.alloc o).alloc o'⟩, ⟨_, (bN.alloc o).alloc o'⟩, (hB0.alloc (by simp; omega) o).alloc (by simp; omega) o'⟩
  case hassign =>
    intro l x W K hK
    gi_wp2
    exact hK
  case hbody =>
    rintro l pre x W ⟨⟨v, hv, hrow⟩, ⟨ub, hbb⟩, ⟨un, hbn⟩, hB⟩ hlt
    have hc := hv.cell
    gi_wp2_with (gi_at_builtin; refine wpListIn_append_own _ rfl _ _ 44 rfl w.heap.size 5 i0 (.int .u8 0) 1 1 Try.underlying44 hi hz0 hz1 hz2 rfl (by decide) _ _ _ rfl (hrow.alloc _) ⟨W.heap.size, 0, none⟩ 1 1 [byteV x] rfl rfl (cell_one_new _ _ _) (by simp [Value.oneCell']) (by simp only [maxLen]; omega) (by omega) (by have := hB.size; simp; omega) ?_; intro v' w1 hown' hgrow _; obtain ⟨g', cap', rfl⟩ := ownsRow_succ hown'; obtain ⟨hv1, hv2, hr2, hk2, hb2⟩ := hv.appended (by decide) hrow hB.size (Nat.le_refl _) hown' hgrow; have hc1 := hv1.cell; have hf1 := hv1.frozen)
    have kb := ((hbb.alloc _).kept hgrow (hbb.not_row (by decide) hrow)).kept (grownBy_setCell' w1 w.heap.size (.slice (some ⟨g', 0, none⟩) (pre.length + 1) cap')) (by simp)
    have kn := ((hbn.alloc _).kept hgrow (hbn.not_row (by decide) hrow)).kept (grownBy_setCell' w1 w.heap.size (.slice (some ⟨g', 0, none⟩) (pre.length + 1) cap')) (by simp; omega)
    exact ⟨⟨⟨_, hv2, by simpa using hr2⟩, ⟨_, kb⟩, ⟨_, kn⟩, hB.trans hb2⟩, kb.trans hbb.symm, kn.trans hbn.symm⟩
  case hdone =>
    rintro D W hD ⟨⟨v, hv, hrow⟩, _, _, hB⟩ hK
    have hc := hv.cell
    have hcv := conv_bytes_own Try.underlying44 Try.underlying5 Try.underlying9 hrow
    gi_wp2
    refine ⟨by simp, .inl ⟨_, _, rfl, run_takeDeferred hK, ?_⟩⟩
    exact ⟨_, results_tmp rfl _ _ _, rfl, hB.trans (belowK_b (w := w) (Nat.le_refl _) W D _ _ (by simp at hD; omega) hK rfl rfl)⟩
end Go.Proofs.Ytjnfemcfohflnaa
