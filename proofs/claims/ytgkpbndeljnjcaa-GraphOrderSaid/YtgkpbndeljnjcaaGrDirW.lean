import Derived.Test.YtgkpbndeljnjcaaFindW
import Derived.Test.YtgkpbndeljnjcaaGrMem
/- Does one need another one by itself (chapter E)? graph.direct; slices.IndexFunc, ContainsFunc at imports, at texts. -/
namespace Go.Proofs.Ytgkpbndeljnjcaa
open Go.RowKit Go.Sort
open Gs (Tx)

theorem idxOf_any {α : Type} (q : α → Bool) (l : List α) : decide (0 ≤ idxOf q l) = l.any q := by
  rcases idxOf_cases q l with ⟨e, h⟩ | ⟨j, hj, e, h, _⟩
  · rw [e]
    refine (decide_eq_false (by omega)).trans (Eq.symm ?_)
    rw [List.any_eq_false]
    exact fun x hx => by simp [h x hx]
  · rw [e]
    exact (decide_eq_true (by omega)).trans (List.any_eq_true.2 ⟨_, List.getElem_mem hj, h⟩).symm
set_option maxHeartbeats 2000000 in
set_option maxRecDepth 100000 in
theorem IdxImp_any (A : Option Addr) (c : Nat) (l : List Imp) (g : Nat) (lb : Array Value) (q : Imp → Bool) (w : World) (eg : ∀ args w, (callFunc g args).run Try.prog w = .ok (.enter g args) w) (h : Row Imp.cells 4 w A l) (hl : l.length ≤ big)
    (hq : ∀ x ∈ l, ∀ W, Below w.heap.size w W → Calls Try.prog g (#[x.v] ++ lb) W fun e w' => e = .returned (.bool (q x)) ∧ Below W.heap.size W w') :
    Calls Try.prog 72 #[.slice A l.length c, .func (.func g) #[] lb] w fun e w' => e = .returned (.int .i64 (idxOf q l)) ∧ Below w.heap.size w w' := by
  unfold big at hl
  have HP := Lib.hid h
  have HQ := Lib.hid hq
  clear h hq
  go_enter Try.func72, Try.ntmps72
  go_wp2_with fail
  go_loopw [8] (fun i wr => ∃ j : Nat, j ≤ l.length ∧ i = .int .i64 j ∧ (∀ k (hk : k < l.length), k < j → q l[k] = false) ∧ Below w.heap.size w wr) (fun i _ => l.length - (intOf i).toNat)
  case atStart => exact ⟨0, by omega, rfl, by omega, Below.refl _ _⟩
  case round =>
    obtain ⟨j, hj, rfl, hN, hb⟩ := hrel
    have HN := Lib.hid hN
    have HB := Lib.hid hb
    clear hN
    by_cases hlt : j < l.length
    · have hlt' : (j : Int) < l.length := by omega
      obtain ⟨ad, rfl, hab, h0, h1, h2, h3⟩ := imp_at HP.out hb j hlt
      have hwz := hb.size
      have c2 := Lib.hid (show Calls Try.prog g (#[(l[j]'hlt).v] ++ lb) wr fun e w' => e = .returned (.bool (q (l[j]'hlt))) ∧ Below wr.heap.size wr w' from HQ.out (l[j]'hlt) (List.getElem_mem _) wr HB.out)
      obtain ⟨bq, hbq⟩ : ∃ bq, bq = q (l[j]'hlt) := ⟨_, rfl⟩
      rw [← hbq] at c2
      have HBQ := Lib.hid hbq
      clear hbq hb
      cases bq
      · go_wp2_with (go_at_fn g; refine (c2.out).mono ?_; rintro e w3 ⟨rfl, hb3⟩)
        go_roundw
        case rel => exact ⟨j + 1, by omega, by go_num, fun k hk hkj => by rcases Nat.lt_succ_iff_lt_or_eq.1 hkj with h | rfl; exact HN.out k hk h; exact HBQ.out.symm, HB.out.trans (hb3.mono (by omega))⟩
        case measure => (simp [intOf]; try omega)
      · have e1 := Lib.hid (idxOf_some hlt HN.out HBQ.out.symm)
        go_wp2_with (go_at_fn g; refine (c2.out).mono ?_; rintro e w3 ⟨rfl, hb3⟩)
        go_ret
        exact ⟨ret_int e1.out.symm, HB.out.trans (hb3.mono (by omega))⟩
    · have e1 := Lib.hid (idxOf_none (q := q) (l := l) (fun k hk => HN.out k hk (by omega)))
      go_wp2_with fail
      go_ret
      exact ⟨ret_int e1.out.symm, HB.out⟩
set_option maxHeartbeats 1000000 in
set_option maxRecDepth 100000 in
theorem ContImp_any (A : Option Addr) (c : Nat) (l : List Imp) (g : Nat) (lb : Array Value) (q : Imp → Bool) (w : World) (eg : ∀ args w, (callFunc g args).run Try.prog w = .ok (.enter g args) w) (h : Row Imp.cells 4 w A l) (hl : l.length ≤ big)
    (hq : ∀ x ∈ l, ∀ W, Below w.heap.size w W → Calls Try.prog g (#[x.v] ++ lb) W fun e w' => e = .returned (.bool (q x)) ∧ Below W.heap.size W w') :
    Calls Try.prog 45 #[.slice A l.length c, .func (.func g) #[] lb] w fun e w' => e = .returned (.bool (l.any q)) ∧ Below w.heap.size w w' := by
  have c1 := Lib.hid (IdxImp_any A c l g lb q w eg h hl hq)
  have e1 := Lib.hid (idxOf_any q l)
  generalize l.any q = b at *
  generalize idxOf q l = i at *
  clear h hq
  go_enter Try.func45, Try.ntmps45
  go_wp2_with (go_at_call 72; refine (c1.out).mono ?_; rintro e w3 ⟨rfl, hb3⟩)
  go_ret
  exact ⟨ret_bool e1.out, hb3⟩
set_option maxHeartbeats 2000000 in
set_option maxRecDepth 100000 in
theorem IdxTx_any (A : Option Addr) (c : Nat) (l : List Tx) (g : Nat) (lb : Array Value) (q : Tx → Bool) (w : World) (eg : ∀ args w, (callFunc g args).run Try.prog w = .ok (.enter g args) w) (h : TxRow w A l) (hl : l.length ≤ big)
    (hq : ∀ x ∈ l, ∀ W, Below w.heap.size w W → Calls Try.prog g (#[.string (bs x)] ++ lb) W fun e w' => e = .returned (.bool (q x)) ∧ Below W.heap.size W w') :
    Calls Try.prog 51 #[.slice A l.length c, .func (.func g) #[] lb] w fun e w' => e = .returned (.int .i64 (idxOf q l)) ∧ Below w.heap.size w w' := by
  unfold big at hl
  have HP := Lib.hid h
  have HQ := Lib.hid hq
  clear h hq
  go_enter Try.func51, Try.ntmps51
  go_wp2_with fail
  go_loopw [8] (fun i wr => ∃ j : Nat, j ≤ l.length ∧ i = .int .i64 j ∧ (∀ k (hk : k < l.length), k < j → q l[k] = false) ∧ Below w.heap.size w wr) (fun i _ => l.length - (intOf i).toNat)
  case atStart => exact ⟨0, by omega, rfl, by omega, Below.refl _ _⟩
  case round =>
    obtain ⟨j, hj, rfl, hN, hb⟩ := hrel
    have HN := Lib.hid hN
    have HB := Lib.hid hb
    clear hN
    by_cases hlt : j < l.length
    · have hlt' : (j : Int) < l.length := by omega
      obtain ⟨ad, rfl, hab, h0⟩ := tx_at HP.out hb j hlt
      have hwz := hb.size
      have c2 := Lib.hid (show Calls Try.prog g (#[.string (bs (l[j]'hlt))] ++ lb) wr fun e w' => e = .returned (.bool (q (l[j]'hlt))) ∧ Below wr.heap.size wr w' from HQ.out (l[j]'hlt) (List.getElem_mem _) wr HB.out)
      obtain ⟨bq, hbq⟩ : ∃ bq, bq = q (l[j]'hlt) := ⟨_, rfl⟩
      rw [← hbq] at c2
      have HBQ := Lib.hid hbq
      clear hbq hb
      cases bq
      · go_wp2_with (go_at_fn g; refine (c2.out).mono ?_; rintro e w3 ⟨rfl, hb3⟩)
        go_roundw
        case rel => exact ⟨j + 1, by omega, by go_num, fun k hk hkj => by rcases Nat.lt_succ_iff_lt_or_eq.1 hkj with h | rfl; exact HN.out k hk h; exact HBQ.out.symm, HB.out.trans (hb3.mono (by omega))⟩
        case measure => (simp [intOf]; try omega)
      · have e1 := Lib.hid (idxOf_some hlt HN.out HBQ.out.symm)
        go_wp2_with (go_at_fn g; refine (c2.out).mono ?_; rintro e w3 ⟨rfl, hb3⟩)
        go_ret
        exact ⟨ret_int e1.out.symm, HB.out.trans (hb3.mono (by omega))⟩
    · have e1 := Lib.hid (idxOf_none (q := q) (l := l) (fun k hk => HN.out k hk (by omega)))
      go_wp2_with fail
      go_ret
      exact ⟨ret_int e1.out.symm, HB.out⟩
set_option maxHeartbeats 1000000 in
set_option maxRecDepth 100000 in
theorem ContTx_any (A : Option Addr) (c : Nat) (l : List Tx) (g : Nat) (lb : Array Value) (q : Tx → Bool) (w : World) (eg : ∀ args w, (callFunc g args).run Try.prog w = .ok (.enter g args) w) (h : TxRow w A l) (hl : l.length ≤ big)
    (hq : ∀ x ∈ l, ∀ W, Below w.heap.size w W → Calls Try.prog g (#[.string (bs x)] ++ lb) W fun e w' => e = .returned (.bool (q x)) ∧ Below W.heap.size W w') :
    Calls Try.prog 53 #[.slice A l.length c, .func (.func g) #[] lb] w fun e w' => e = .returned (.bool (l.any q)) ∧ Below w.heap.size w w' := by
  have c1 := Lib.hid (IdxTx_any A c l g lb q w eg h hl hq)
  have e1 := Lib.hid (idxOf_any q l)
  generalize l.any q = b at *
  generalize idxOf q l = i at *
  clear h hq
  go_enter Try.func53, Try.ntmps53
  go_wp2_with (go_at_call 51; refine (c1.out).mono ?_; rintro e w3 ⟨rfl, hb3⟩)
  go_ret
  exact ⟨ret_bool e1.out, hb3⟩

def asksQ (b : ByteArray) (x : Imp) : Bool := decide (x.mod = b)
theorem asks_any (m : Mod) (b : ByteArray) : asks m (tx b) = m.im.any (asksQ b) := by
  unfold asks
  congr 1
  funext i
  unfold asksQ
  by_cases h : i.mod = b
  · simp [h]
  · have : tx i.mod ≠ tx b := fun e => h (tx_inj e)
    simp [h, this]
set_option maxHeartbeats 1000000 in
set_option maxRecDepth 100000 in
theorem asksQ_any (x : Imp) (b : ByteArray) (B : Nat) (w : World) (hB : B < w.heap.size) (h : w.cell? ⟨B, 0, none⟩ = some (.string b)) :
    Calls Try.prog 46 (#[x.v] ++ #[.pointer (some ⟨B, 0, none⟩)]) w fun e w' => e = .returned (.bool (asksQ b x)) ∧ Below w.heap.size w w' := by
  have hd : asksQ b x = (x.mod.toList == b.toList) := by
    unfold asksQ
    by_cases e : x.mod = b
    · rw [str_eq e]; simp [e]
    · rw [str_ne e]; simp [e]
  rw [hd]
  go_enter Try.func46, Try.ntmps46
  go_wp2_with fail
  go_ret
  exact ⟨rfl, (Below.refl _ _).alloc (Nat.le_refl _) _⟩

theorem dirT_at {l : List Plc} {a : ByteArray} {b : Tx} {j : Nat} (hj : j < l.length) (h : l.find? (named a) = some l[j]) : dirT l (tx a) b = asks l[j].m b := by
  unfold dirT; rw [isAt_named, h]
theorem named_mem {l : List Plc} {a : ByteArray} (h : tx a ∈ txs l) : ∃ j, ∃ hj : j < l.length, idxOf (named a) l = j ∧ l.find? (named a) = some l[j] := by
  rcases find_cases (named a) l with ⟨_, h2⟩ | h
  · obtain ⟨x, hx, e⟩ := List.mem_map.1 h
    have := List.find?_eq_none.1 h2 x hx
    exact absurd (decide_eq_true (tx_inj e)) this
  · exact h
set_option maxHeartbeats 2000000 in
set_option maxRecDepth 100000 in
theorem direct_any (A : Option Addr) (c : Nat) (l : List Plc) (a b : ByteArray) (w : World) (h : PlsOk w A l) (ha : tx a ∈ txs l) :
    Calls Try.prog 26 #[.slice A l.length c, .string a, .string b] w fun e w' => e = .returned (.bool (dirT l (tx a) (tx b))) ∧ Below w.heap.size w w' := by
  obtain ⟨j, hj, e1, e2⟩ := named_mem ha
  rw [dirT_at hj e2, asks_any]
  obtain ⟨w0, hw0⟩ : ∃ w0, w0 = w.alloc (.cells #[.string b] 9) := ⟨_, rfl⟩
  obtain ⟨hc0, hz0, hb0⟩ := box1 hw0
  have hm := h.each l[j] (List.getElem_mem _)
  have c1 := Lib.hid (Place_any A c l a w0 (h.row.below hb0) h.len)
  have c2 := Lib.hid (fun W (hb : Below w0.heap.size w0 W) => ContImp_any (l[j]'hj).m.iA (l[j]'hj).m.iC (l[j]'hj).m.im 46 #[.pointer (some ⟨w.heap.size, 0, none⟩)] (asksQ b) W (enters_of Try.func46 (by kernel_rfl) rfl) ((hm.below hb0).im.1.below hb) hm.im.2.1
    (fun x _ W' hb' => asksQ_any x b w.heap.size W' (by have := hb.size; have := hb'.size; omega) ((hb'.cell (by have := hb.size; simp; omega)).trans ((hb.cell (by simp; omega)).trans hc0))))
  rw [e1] at c1
  have HK := Lib.hid (fun W (hbW : Below w.heap.size w W) => plc_at h.row hbW j hj)
  obtain ⟨ad, rfl, _⟩ := plc_at h.row (Below.refl _ _) j hj
  have H0 := Lib.hid hb0
  have hw0' := hw0.symm
  have hj' : (j : Int) < l.length := by omega
  have hlen := h.len
  unfold big at hlen
  generalize (l[j].m.im.any (asksQ b)) = R at *
  clear hw0 hb0 h hm e1 e2 ha
  go_enter Try.func26, Try.ntmps26
  go_wp2_with (first
    | (go_at_call 43; refine (c1.out).mono ?_; rintro e w1 ⟨rfl, hb1⟩; obtain ⟨_, ead, _, k0, k1, k2, k3, k4, k5, k6, k7⟩ := HK.out _ (H0.out.trans (hb1.mono (by omega))); obtain rfl := Option.some.inj ead)
    | (go_at_call 45; refine (c2.out _ hb1).mono ?_; rintro e w3 ⟨rfl, hb3⟩))
  go_ret
  exact ⟨rfl, H0.out.trans ((hb1.trans (hb3.mono hb1.size)).mono (by omega))⟩

end Go.Proofs.Ytgkpbndeljnjcaa
