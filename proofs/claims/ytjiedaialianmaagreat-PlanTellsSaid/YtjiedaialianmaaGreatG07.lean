import Derived.Test.YtjiedaialianmaaGreatG04
import Derived.Test.YtjiedaialianmaaGreatG05
import Derived.Test.YtjiedaialianmaaGreatG01
import Derived.Test.YtjiedaialianmaaGreatG03
import Derived.Deep.LoopGhost
section

namespace Go.Proofs.YtjiedaialianmaaGreat
open Go.RowKit Go.Sort
open Gs (Tx)

theorem idxOf_any {α : Type} (q : α → Bool) (l : List α) : decide (0 ≤ idxOf q l) = l.any q := by
  rcases idxOf_cases q l with ⟨e, h⟩ | ⟨j, hj, e, h, _⟩
  · rw [e]
    refine (decide_eq_false (by omega)).trans (Eq.symm ?_)
    rw [List.any_eq_false]
    exact fun x hx => by simp [h x hx]
  · rw [e]
    exact (decide_eq_true (by omega)).trans (List.any_eq_true.2 ⟨_, List.getElem_mem hj, h⟩).symm
set_option maxHeartbeats 2000000 in
set_option maxRecDepth 100000 in
theorem IdxImp_any (A : Option Addr) (c : Nat) (l : List Imp) (g : Nat) (lb : Array Value) (q : Imp → Bool) (w : World) (eg : ∀ args w, (callFunc g args).run Tryz.prog w = .ok (.enter g args) w) (h : Row Imp.cells 4 w A l) (hl : l.length ≤ big)
    (hq : ∀ x ∈ l, ∀ W, Below w.heap.size w W → Calls Tryz.prog g (#[x.v] ++ lb) W fun e w' => e = .returned (.bool (q x)) ∧ Below W.heap.size W w') :
    Calls Tryz.prog 253 #[.slice A l.length c, .func (.func g) #[] lb] w fun e w' => e = .returned (.int .i64 (idxOf q l)) ∧ Below w.heap.size w w' := by
  unfold big at hl
  have HP := Lib.hid h
  have HQ := Lib.hid hq
  clear h hq
  go_enter Tryz.func253, Tryz.ntmps253
  go_wp2_with fail
  go_loopw [8] (fun i wr => ∃ j : Nat, j ≤ l.length ∧ i = .int .i64 j ∧ (∀ k (hk : k < l.length), k < j → q l[k] = false) ∧ Below w.heap.size w wr) (fun i _ => l.length - (intOf i).toNat)
  case atStart => exact ⟨0, by omega, rfl, by omega, Below.refl _ _⟩
  case round =>
    obtain ⟨j, hj, rfl, hN, hb⟩ := hrel
    have HN := Lib.hid hN
    have HB := Lib.hid hb
    clear hN
    by_cases hlt : j < l.length
    · have hlt' : (j : Int) < l.length := by omega
      obtain ⟨ad, rfl, hab, h0, h1, h2, h3⟩ := imp_at HP.out hb j hlt
      have hwz := hb.size
      have c2 := Lib.hid (show Calls Tryz.prog g (#[(l[j]'hlt).v] ++ lb) wr fun e w' => e = .returned (.bool (q (l[j]'hlt))) ∧ Below wr.heap.size wr w' from HQ.out (l[j]'hlt) (List.getElem_mem _) wr HB.out)
      obtain ⟨bq, hbq⟩ : ∃ bq, bq = q (l[j]'hlt) := ⟨_, rfl⟩
      rw [← hbq] at c2
      have HBQ := Lib.hid hbq
      clear hbq hb
      cases bq
      · go_wp2_with (go_at_fn g; refine (c2.out).mono ?_; rintro e w3 ⟨rfl, hb3⟩)
        go_roundw
        case rel => exact ⟨j + 1, by omega, by go_num, fun k hk hkj => by rcases Nat.lt_succ_iff_lt_or_eq.1 hkj with h | rfl; exact HN.out k hk h; exact HBQ.out.symm, HB.out.trans (hb3.mono (by omega))⟩
        case measure => (simp [intOf]; try omega)
      · have e1 := Lib.hid (idxOf_some hlt HN.out HBQ.out.symm)
        go_wp2_with (go_at_fn g; refine (c2.out).mono ?_; rintro e w3 ⟨rfl, hb3⟩)
        go_ret
        exact ⟨ret_int e1.out.symm, HB.out.trans (hb3.mono (by omega))⟩
    · have e1 := Lib.hid (idxOf_none (q := q) (l := l) (fun k hk => HN.out k hk (by omega)))
      go_wp2_with fail
      go_ret
      exact ⟨ret_int e1.out.symm, HB.out⟩
set_option maxHeartbeats 1000000 in
set_option maxRecDepth 100000 in
theorem ContImp_any (A : Option Addr) (c : Nat) (l : List Imp) (g : Nat) (lb : Array Value) (q : Imp → Bool) (w : World) (eg : ∀ args w, (callFunc g args).run Tryz.prog w = .ok (.enter g args) w) (h : Row Imp.cells 4 w A l) (hl : l.length ≤ big)
    (hq : ∀ x ∈ l, ∀ W, Below w.heap.size w W → Calls Tryz.prog g (#[x.v] ++ lb) W fun e w' => e = .returned (.bool (q x)) ∧ Below W.heap.size W w') :
    Calls Tryz.prog 220 #[.slice A l.length c, .func (.func g) #[] lb] w fun e w' => e = .returned (.bool (l.any q)) ∧ Below w.heap.size w w' := by
  have c1 := Lib.hid (IdxImp_any A c l g lb q w eg h hl hq)
  have e1 := Lib.hid (idxOf_any q l)
  generalize l.any q = b at *
  generalize idxOf q l = i at *
  clear h hq
  go_enter Tryz.func220, Tryz.ntmps220
  go_wp2_with (go_at_call 253; refine (c1.out).mono ?_; rintro e w3 ⟨rfl, hb3⟩)
  go_ret
  exact ⟨ret_bool e1.out, hb3⟩
set_option maxHeartbeats 2000000 in
set_option maxRecDepth 100000 in
theorem IdxTx_any (A : Option Addr) (c : Nat) (l : List Tx) (g : Nat) (lb : Array Value) (q : Tx → Bool) (w : World) (eg : ∀ args w, (callFunc g args).run Tryz.prog w = .ok (.enter g args) w) (h : TxRow w A l) (hl : l.length ≤ big)
    (hq : ∀ x ∈ l, ∀ W, Below w.heap.size w W → Calls Tryz.prog g (#[.string (bs x)] ++ lb) W fun e w' => e = .returned (.bool (q x)) ∧ Below W.heap.size W w') :
    Calls Tryz.prog 157 #[.slice A l.length c, .func (.func g) #[] lb] w fun e w' => e = .returned (.int .i64 (idxOf q l)) ∧ Below w.heap.size w w' := by
  unfold big at hl
  have HP := Lib.hid h
  have HQ := Lib.hid hq
  clear h hq
  go_enter Tryz.func157, Tryz.ntmps157
  go_wp2_with fail
  go_loopw [8] (fun i wr => ∃ j : Nat, j ≤ l.length ∧ i = .int .i64 j ∧ (∀ k (hk : k < l.length), k < j → q l[k] = false) ∧ Below w.heap.size w wr) (fun i _ => l.length - (intOf i).toNat)
  case atStart => exact ⟨0, by omega, rfl, by omega, Below.refl _ _⟩
  case round =>
    obtain ⟨j, hj, rfl, hN, hb⟩ := hrel
    have HN := Lib.hid hN
    have HB := Lib.hid hb
    clear hN
    by_cases hlt : j < l.length
    · have hlt' : (j : Int) < l.length := by omega
      obtain ⟨ad, rfl, hab, h0⟩ := tx_at HP.out hb j hlt
      have hwz := hb.size
      have c2 := Lib.hid (show Calls Tryz.prog g (#[.string (bs (l[j]'hlt))] ++ lb) wr fun e w' => e = .returned (.bool (q (l[j]'hlt))) ∧ Below wr.heap.size wr w' from HQ.out (l[j]'hlt) (List.getElem_mem _) wr HB.out)
      obtain ⟨bq, hbq⟩ : ∃ bq, bq = q (l[j]'hlt) := ⟨_, rfl⟩
      rw [← hbq] at c2
      have HBQ := Lib.hid hbq
      clear hbq hb
      cases bq
      · go_wp2_with (go_at_fn g; refine (c2.out).mono ?_; rintro e w3 ⟨rfl, hb3⟩)
        go_roundw
        case rel => exact ⟨j + 1, by omega, by go_num, fun k hk hkj => by rcases Nat.lt_succ_iff_lt_or_eq.1 hkj with h | rfl; exact HN.out k hk h; exact HBQ.out.symm, HB.out.trans (hb3.mono (by omega))⟩
        case measure => (simp [intOf]; try omega)
      · have e1 := Lib.hid (idxOf_some hlt HN.out HBQ.out.symm)
        go_wp2_with (go_at_fn g; refine (c2.out).mono ?_; rintro e w3 ⟨rfl, hb3⟩)
        go_ret
        exact ⟨ret_int e1.out.symm, HB.out.trans (hb3.mono (by omega))⟩
    · have e1 := Lib.hid (idxOf_none (q := q) (l := l) (fun k hk => HN.out k hk (by omega)))
      go_wp2_with fail
      go_ret
      exact ⟨ret_int e1.out.symm, HB.out⟩
set_option maxHeartbeats 1000000 in
set_option maxRecDepth 100000 in
theorem ContTx_any (A : Option Addr) (c : Nat) (l : List Tx) (g : Nat) (lb : Array Value) (q : Tx → Bool) (w : World) (eg : ∀ args w, (callFunc g args).run Tryz.prog w = .ok (.enter g args) w) (h : TxRow w A l) (hl : l.length ≤ big)
    (hq : ∀ x ∈ l, ∀ W, Below w.heap.size w W → Calls Tryz.prog g (#[.string (bs x)] ++ lb) W fun e w' => e = .returned (.bool (q x)) ∧ Below W.heap.size W w') :
    Calls Tryz.prog 159 #[.slice A l.length c, .func (.func g) #[] lb] w fun e w' => e = .returned (.bool (l.any q)) ∧ Below w.heap.size w w' := by
  have c1 := Lib.hid (IdxTx_any A c l g lb q w eg h hl hq)
  have e1 := Lib.hid (idxOf_any q l)
  generalize l.any q = b at *
  generalize idxOf q l = i at *
  clear h hq
  go_enter Tryz.func159, Tryz.ntmps159
  go_wp2_with (go_at_call 157; refine (c1.out).mono ?_; rintro e w3 ⟨rfl, hb3⟩)
  go_ret
  exact ⟨ret_bool e1.out, hb3⟩

def asksQ (b : ByteArray) (x : Imp) : Bool := decide (x.mod = b)
theorem asks_any (m : Mod) (b : ByteArray) : asks m (tx b) = m.im.any (asksQ b) := by
  unfold asks
  congr 1
  funext i
  unfold asksQ
  by_cases h : i.mod = b
  · simp [h]
  · have : tx i.mod ≠ tx b := fun e => h (tx_inj e)
    simp [h, this]
set_option maxHeartbeats 1000000 in
set_option maxRecDepth 100000 in
theorem asksQ_any (x : Imp) (b : ByteArray) (B : Nat) (w : World) (hB : B < w.heap.size) (h : w.cell? ⟨B, 0, none⟩ = some (.string b)) :
    Calls Tryz.prog 221 (#[x.v] ++ #[.pointer (some ⟨B, 0, none⟩)]) w fun e w' => e = .returned (.bool (asksQ b x)) ∧ Below w.heap.size w w' := by
  have hd : asksQ b x = (x.mod.toList == b.toList) := by
    unfold asksQ
    by_cases e : x.mod = b
    · rw [str_eq e]; simp [e]
    · rw [str_ne e]; simp [e]
  rw [hd]
  go_enter Tryz.func221, Tryz.ntmps221
  go_wp2_with fail
  go_ret
  exact ⟨rfl, (Below.refl _ _).alloc (Nat.le_refl _) _⟩

theorem dirT_at {l : List Plc} {a : ByteArray} {b : Tx} {j : Nat} (hj : j < l.length) (h : l.find? (named a) = some l[j]) : dirT l (tx a) b = asks l[j].m b := by
  unfold dirT; rw [isAt_named, h]
theorem named_mem {l : List Plc} {a : ByteArray} (h : tx a ∈ txs l) : ∃ j, ∃ hj : j < l.length, idxOf (named a) l = j ∧ l.find? (named a) = some l[j] := by
  rcases find_cases (named a) l with ⟨_, h2⟩ | h
  · obtain ⟨x, hx, e⟩ := List.mem_map.1 h
    have := List.find?_eq_none.1 h2 x hx
    exact absurd (decide_eq_true (tx_inj e)) this
  · exact h
set_option maxHeartbeats 2000000 in
set_option maxRecDepth 100000 in
theorem direct_any (A : Option Addr) (c : Nat) (l : List Plc) (a b : ByteArray) (w : World) (h : PlsOk w A l) (ha : tx a ∈ txs l) :
    Calls Tryz.prog 161 #[.slice A l.length c, .string a, .string b] w fun e w' => e = .returned (.bool (dirT l (tx a) (tx b))) ∧ Below w.heap.size w w' := by
  obtain ⟨j, hj, e1, e2⟩ := named_mem ha
  rw [dirT_at hj e2, asks_any]
  obtain ⟨w0, hw0⟩ : ∃ w0, w0 = w.alloc (.cells #[.string b] 9) := ⟨_, rfl⟩
  obtain ⟨hc0, hz0, hb0⟩ := box1 hw0
  have hm := h.each l[j] (List.getElem_mem _)
  have c1 := Lib.hid (Place_any A c l a w0 (h.row.below hb0) h.len)
  have c2 := Lib.hid (fun W (hb : Below w0.heap.size w0 W) => ContImp_any (l[j]'hj).m.iA (l[j]'hj).m.iC (l[j]'hj).m.im 221 #[.pointer (some ⟨w.heap.size, 0, none⟩)] (asksQ b) W (enters_of Tryz.func221 (by kernel_rfl) rfl) ((hm.below hb0).im.1.below hb) hm.im.2.1
    (fun x _ W' hb' => asksQ_any x b w.heap.size W' (by have := hb.size; have := hb'.size; omega) ((hb'.cell (by have := hb.size; simp; omega)).trans ((hb.cell (by simp; omega)).trans hc0))))
  rw [e1] at c1
  have HK := Lib.hid (fun W (hbW : Below w.heap.size w W) => plc_at h.row hbW j hj)
  obtain ⟨ad, rfl, _⟩ := plc_at h.row (Below.refl _ _) j hj
  have H0 := Lib.hid hb0
  have hw0' := hw0.symm
  have hj' : (j : Int) < l.length := by omega
  have hlen := h.len
  unfold big at hlen
  generalize (l[j].m.im.any (asksQ b)) = R at *
  clear hw0 hb0 h hm e1 e2 ha
  go_enter Tryz.func161, Tryz.ntmps161
  go_wp2_with (first
    | (go_at_call 124; refine (c1.out).mono ?_; rintro e w1 ⟨rfl, hb1⟩; obtain ⟨_, ead, _, k0, k1, k2, k3, k4, k5, k6, k7⟩ := HK.out _ (H0.out.trans (hb1.mono (by omega))); obtain rfl := Option.some.inj ead)
    | (go_at_call 220; refine (c2.out _ hb1).mono ?_; rintro e w3 ⟨rfl, hb3⟩))
  go_ret
  exact ⟨rfl, H0.out.trans ((hb1.trans (hb3.mono hb1.size)).mono (by omega))⟩

end Go.Proofs.YtjiedaialianmaaGreat
end

section

open Go
namespace Go.Proofs.YtjiedaialianmaaGreat
namespace Gr
section
variable {N : Type}

/-- what it keeps of those that are met: nothing is lost, each is there once, all are of the row -/
structure Keeps (all m M : List N) : Prop where
  sub : ∀ x, x ∈ m → x ∈ M
  nd : m.Nodup → M.Nodup
  inn : (∀ x, x ∈ m → x ∈ all) → ∀ x, x ∈ M → x ∈ all
theorem Keeps.refl (all m : List N) : Keeps all m m := ⟨fun _ h => h, fun h => h, fun h => h⟩
theorem Keeps.trans {all a b c : List N} (h : Keeps all a b) (k : Keeps all b c) : Keeps all a c := ⟨fun x hx => k.sub x (h.sub x hx), fun n => k.nd (h.nd n), fun n => k.inn (h.inn n)⟩
theorem Keeps.cons {all m : List N} {b : N} (hb : b ∈ all) (hn : b ∉ m) : Keeps all m (b :: m) :=
  ⟨fun x hx => List.mem_cons_of_mem _ hx, fun n => List.nodup_cons.2 ⟨hn, n⟩, fun n x hx => by
    rcases List.mem_cons.1 hx with rfl | q
    · exact hb
    · exact n x q⟩

end
section
variable {N : Type} [DecidableEq N]
end
end Gr
end Go.Proofs.YtjiedaialianmaaGreat
end

section

namespace Go.Proofs.YtjiedaialianmaaGreat
open Go.RowKit Go.Maps Go.WideMaps Go.Sort
open Gs (Tx)

theorem cnt_perm {ks ks' : List ByteArray} (h : ks.Perm ks') (s : ByteArray) : cnt ks s = cnt ks' s := by
  unfold cnt; rw [(h.filter _).length_eq]
theorem Counts.perm {w : World} {b n : Nat} {ks ks' : List ByteArray} (h : Counts w b n ks) (p : ks.Perm ks') : Counts w b n ks' := by
  obtain ⟨D, h1, h2⟩ := h
  exact ⟨D, h1, fun s => by rw [h2, cnt_perm p]⟩
/-- the map in block b: who is met -/
def Mt (w : World) (b : Nat) (M : List Tx) : Prop := Counts w b M.length (M.map bs)
theorem Mt.put {w : World} {b : Nat} {M : List Tx} {s : Tx} (h : Counts w b (M.length + 1) (M.map bs ++ [bs s])) : Mt w b (s :: M) := by
  unfold Mt
  refine Counts.perm h ?_
  rw [List.map_cons]
  exact List.perm_append_comm (l₁ := M.map bs) (l₂ := [bs s])
theorem Mt.lt {w : World} {b : Nat} {M : List Tx} (h : Mt w b M) : b < w.heap.size := Counts.lt h
theorem Mt.kept {w w' : World} {b B : Nat} {M : List Tx} (h : Mt w b M) (hb : Below B w w') (hB : b < B) : Mt w' b M := Counts.kept h hb hB
/-- a walker that lies in block p, its map in block b -/
structure Wk (w0 : World) (T : List Tx) (tA : Option Addr) (tC g : Nat) (lb : Array Value) (p b : Nat) (w : World) : Prop where
  below : Below w0.heap.size w0 w
  f0 : w.cell? ⟨p, 0, none⟩ = some (.slice tA T.length tC)
  f1 : w.cell? ⟨p, 1, none⟩ = some (.map (some b))
  f2 : w.cell? ⟨p, 2, none⟩ = some (.func (.func g) #[] lb)
  row : TxRow w tA T
  pb : p ≠ b
  low : w0.heap.size ≤ b
  rb : ∀ ad, tA = some ad → ad.block ≠ b
  plt : p < w.heap.size
theorem reads_but {w w' : World} {size n b : Nat} {A : Option Addr} {xs : List Value} (h : Reads w w.heap.size size A n xs) (hg : w.grownBy w' (some b)) (hr : ∀ ad, A = some ad → ad.block ≠ b) : Reads w' w'.heap.size size A n xs :=
  ⟨h.1, fun hn => by
    obtain ⟨ad, e, hlt, hc⟩ := h.2 hn
    refine ⟨ad, e, Nat.lt_of_lt_of_le hlt hg.size, fun j u hu => hg.cell (hc j u hu) ?_⟩
    rw [block_of_add]
    exact fun q => hr ad e (Option.some.inj q)⟩
theorem Wk.keep {w0 : World} {T : List Tx} {tA : Option Addr} {tC g : Nat} {lb : Array Value} {p b : Nat} {w w' : World} (h : Wk w0 T tA tC g lb p b w) (hg : w.grownBy w' (some b)) : Wk w0 T tA tC g lb p b w' where
  below := h.below.grown hg h.below.size (fun k hk => by cases hk; exact h.low)
  f0 := hg.cell h.f0 (fun q => h.pb (Option.some.inj q))
  f1 := hg.cell h.f1 (fun q => h.pb (Option.some.inj q))
  f2 := hg.cell h.f2 (fun q => h.pb (Option.some.inj q))
  row := reads_but h.row hg h.rb
  pb := h.pb
  low := h.low
  rb := h.rb
  plt := Nat.lt_of_lt_of_le h.plt hg.size

section
variable (w0 : World) (T : List Tx) (tA : Option Addr) (tC g : Nat) (lb : Array Value) (p b : Nat) (r : Tx → Tx → Bool)
end

end Go.Proofs.YtjiedaialianmaaGreat
end

section

namespace Go.Proofs.YtjiedaialianmaaGreat
open Go.RowKit Go.Maps Go.WideMaps Go.Sort
open Gs (Tx)

end Go.Proofs.YtjiedaialianmaaGreat
end

section

namespace Go.Proofs.YtjiedaialianmaaGreat
open Go.RowKit Go.Lib Go.Sort
open Gs (Tx)

theorem TR.ne {w : World} {base k : Nat} {v : Value} {ss : List Tx} (h : TR w base v ss) (hk : k < base) : v.ownBlock ≠ some k := fun e => by have := (h.lt k e).1; omega
theorem heap_put {w : World} {g q : Nat} {cur : Array Value} {e : TypeId} {fr : Nat × Nat} (d : Array (List UInt8)) (hb : w.heap[g]? = some (.cells cur e fr)) :
    (putRow encStr (Sort.ahead w q) g 0 d).heap[g]? = some (.cells (putCells encStr 0 d cur) e fr) := by
  simp [putRow, mapBlock, Sort.ahead, Array.getElem?_modify, hb, onCells]
theorem eraseIdx_split : ∀ (l : List Tx) (i : Nat), l.eraseIdx i = l.take i ++ l.drop (i + 1)
  | [], i => by simp
  | x :: l, 0 => by simp
  | x :: l, i + 1 => by simp [eraseIdx_split l i]
theorem Delete_tr {w : World} {base c i : Nat} {A : Option Addr} {ss : List Tx} (h : TR w base (.slice A ss.length c) ss) (hi : i < ss.length) :
    Calls Tryz.prog 162 #[.slice A ss.length c, .int .i64 i, .int .i64 (i + 1)] w fun e w' => e = .returned (.slice A (ss.eraseIdx i).length c) ∧ TR w' base (.slice A (ss.eraseIdx i).length c) (ss.eraseIdx i) ∧ w.grownBy w' (Value.slice A ss.length c).ownBlock := by
  have ho := h.own
  have hv : Value.slice A ss.length c ≠ .slice none 0 0 := by intro e; injection e with _ e2 _; omega
  obtain ⟨g, cap, hv', hbg, hgl, hncap, hcm, hlen, hH⟩ := Lib.holds_of_ownsRow ho hv
  injection hv' with hA _ hcc
  subst hA hcc
  unfold maxLen at hcm
  have hn : (ss.eraseIdx i).length = ss.length - 1 := by rw [List.length_eraseIdx, if_pos hi]
  refine (Tryz.slices_Delete_string g 0 c i (i + 1) ss w hH hncap (by omega) (by omega) (by omega)).mono ?_
  rintro e w' ⟨rfl, q, rfl⟩
  refine ⟨by rw [hn, show i + 1 - i = 1 by omega], ?_, grownBy_put _⟩
  rcases ho.2 with ⟨h0, _⟩ | ⟨g', cap', cur, hv', hbase, hb, h1, h2, h3, h4⟩
  · exact absurd h0 hv
  · injection hv' with hA' _ hc'
    injection hA' with hA'
    injection hA' with hg' _ _
    subst hg' hc'
    refine TR.of_own (n := (ss.eraseIdx i).length) ⟨by simp, .inr ⟨g, c, _, rfl, hbase, heap_put _ hb, by omega, h2, by simp [putCells, h3], ?_⟩⟩
    have hs : ss.take i ++ ss.drop (i + 1) ++ List.replicate (i + 1 - i) [] = ss.eraseIdx i ++ [[]] := by rw [eraseIdx_split, show i + 1 - i = 1 by omega]; rfl
    rw [hs, Nat.mul_one]
    have ht := take_putCells cur (ss.eraseIdx i ++ [[]]) (by simp; omega)
    have h5 := congrArg (List.take (ss.eraseIdx i).length) ht
    rw [List.take_take, Nat.min_eq_left (by simp)] at h5
    rw [h5, List.map_append]
    rw [List.take_append_of_le_length (by simp), List.take_of_length_le (by simp)]

/-- is it asked by none of the left? -/
theorem free_any (r : Tx → Tx → Bool) (left : List Tx) (x : Tx) : Gs.free r left x = !(left.any (r x)) := by
  unfold Gs.free
  induction left with
  | nil => rfl
  | cons y l ih => rw [List.all_cons, List.any_cons, ih]; cases r x y <;> rfl
theorem idxOf_find {α : Type} (q : α → Bool) : ∀ (l : List α), idxOf q l = if l.findIdx q < l.length then (l.findIdx q : Int) else -1
  | [] => rfl
  | x :: l => by
    unfold idxOf
    rw [List.findIdx_cons]
    by_cases h : q x = true
    · simp [h]
    · have h' : q x = false := by simpa using h
      have ih := idxOf_find q l
      rw [if_neg h, h']
      simp only [cond_false, List.length_cons]
      by_cases k : l.findIdx q < l.length
      · rw [if_pos k] at ih
        rw [ih, if_neg (by omega), if_pos (by omega)]; rfl
      · rw [if_neg k] at ih
        rw [ih, if_pos (by omega), if_neg (by omega)]

set_option maxHeartbeats 1000000 in
set_option maxRecDepth 100000 in
theorem sorted2_any (A : Option Addr) (c : Nat) (l : List Plc) (L X : Nat) (x y : Tx) (w : World) (h : PlsOk w A l) (hc : w.cell? ⟨L, 0, none⟩ = some (.slice A l.length c)) (hd : w.cell? ⟨X, 0, none⟩ = some (.string (bs x))) (hx : x ∈ txs l) :
    Calls Tryz.prog 160 (#[.string (bs y)] ++ #[.pointer (some ⟨L, 0, none⟩), .pointer (some ⟨X, 0, none⟩)]) w fun e w' => e = .returned (.bool (dirT l x y)) ∧ Below w.heap.size w w' := by
  have c1 := Lib.hid (direct_any A c l (bs x) (bs y) w h (by rw [tx_bs]; exact hx))
  simp only [tx_bs] at c1
  generalize dirT l x y = d at *
  clear h hx
  go_enter Tryz.func160, Tryz.ntmps160
  go_wp2_with (first | (go_at_call 161; (with_reducible refine (c1.out).mono ?_); rintro e w1 ⟨rfl, hb1⟩))
  go_ret
  exact ⟨rfl, hb1⟩

set_option maxHeartbeats 1000000 in
set_option maxRecDepth 100000 in
theorem sorted1_any (A : Option Addr) (c : Nat) (l : List Plc) (B L : Nat) (lA : Option Addr) (lC : Nat) (left : List Tx) (x : Tx) (w : World) (h : PlsOk w A l) (hc : w.cell? ⟨L, 0, none⟩ = some (.slice A l.length c))
    (hd : w.cell? ⟨B, 0, none⟩ = some (.slice lA left.length lC)) (hr : TxRow w lA left) (hl : left.length ≤ big) (hx : x ∈ txs l) (hL : L < w.heap.size) :
    Calls Tryz.prog 158 (#[.string (bs x)] ++ #[.pointer (some ⟨B, 0, none⟩), .pointer (some ⟨L, 0, none⟩)]) w fun e w' => e = .returned (.bool (Gs.free (dirT l) left x)) ∧ Below w.heap.size w w' := by
  obtain ⟨w0, hw0⟩ : ∃ w0, w0 = w.alloc (.cells #[.string (bs x)] 9) := ⟨_, rfl⟩
  obtain ⟨hc0, hz0, hb0⟩ := box1 hw0
  have c1 := Lib.hid (ContTx_any lA lC left 160 #[.pointer (some ⟨L, 0, none⟩), .pointer (some ⟨w.heap.size, 0, none⟩)] (dirT l x) w0 (enters_of Tryz.func160 (by kernel_rfl) rfl) (hr.below hb0) hl
    (fun y _ W hb => sorted2_any A c l L w.heap.size x y W ((h.below hb0).below hb) ((hb.cell (by simp; omega)).trans ((hb0.cell hL).trans hc)) ((hb.cell (by simp; omega)).trans hc0) hx))
  have hB : B < w.heap.size := World.block_lt_of_cell? _ _ hd
  have d0 := (hb0.cell (p := ⟨B, 0, none⟩) hB).trans hd
  have H0 := Lib.hid hb0
  have hw0' := hw0.symm
  rw [free_any]
  generalize left.any (dirT l x) = b at *
  clear hw0 hb0 h hr hc hd hx hz0 hl
  go_enter Tryz.func158, Tryz.ntmps158
  go_wp2_with (go_at_call 159; refine (c1.out).mono ?_; rintro e w2 ⟨rfl, hb2⟩)
  go_ret
  exact ⟨rfl, H0.out.trans (hb2.mono H0.out.size)⟩

def SortRes (w' : World) (base : Nat) (e : Ending) (o : Option (List Tx)) : Prop := ∃ v, e = .returned (.tuple #[v, .bool o.isSome]) ∧ TR w' base v (o.getD [])
theorem TR.at_lt {w w' : World} {base B : Nat} {v : Value} {ss : List Tx} (h : TR w base v ss) (hb : Below B w w') (hlt : ∀ g, v.ownBlock = some g → g < B) : TR w' base v ss := by
  refine ⟨h.1, ?_⟩
  rcases h.2 with h0 | ⟨g, cap, cur, e1, e2, e3, e4⟩
  · exact .inl h0
  · refine .inr ⟨g, cap, cur, e1, e2, ?_, e4⟩
    rw [hb.block g (hlt g (by rw [e1]; rfl))]; exact e3
/-- the loop of Sorted: what is left, what is out -/
structure SLoop (l : List Plc) (base B base2 : Nat) (w : World) (v : Value) (left out : List Tx) (wr : World) : Prop where
  ord : Gs.order (dirT l) left.length left out = sortedT l
  out_ : TR wr base2 v out
  box : ∃ u, Boxed wr B 27 u ∧ TR wr base u left ∧ (∀ g, u.ownBlock = some g → g < B)
  mem : ∀ x ∈ left, x ∈ txs l
  len : out.length + left.length ≤ 8
  bel : Below base w wr

theorem order_zero (r : Tx → Tx → Bool) (left out : List Tx) (h : left = []) : Gs.order r left.length left out = some out := by subst h; rfl
theorem order_pos (r : Tx → Tx → Bool) (left out : List Tx) (h : left ≠ []) : Gs.order r left.length left out = if left.findIdx (Gs.free r left) < left.length then Gs.order r (left.length - 1) (left.eraseIdx (left.findIdx (Gs.free r left))) (out ++ [left.getD (left.findIdx (Gs.free r left)) []]) else none := by
  obtain ⟨n, hn⟩ : ∃ n, left.length = n + 1 := by
    cases left with
    | nil => exact absurd rfl h
    | cons x l => exact ⟨l.length, rfl⟩
  rw [hn, Gs.order, hn]; rfl

set_option maxHeartbeats 4000000 in
set_option maxRecDepth 100000 in
theorem Sorted_any (A : Option Addr) (c : Nat) (l : List Plc) (w : World) (h : PlsOk w A l) (h8 : l.length ≤ 8) :
    Calls Tryz.prog 87 #[.slice A l.length c] w fun e w' => SortRes w' w.heap.size e (sortedT l) ∧ Below w.heap.size w w' := by
  obtain ⟨w0, hw0⟩ : ∃ w0, w0 = w.alloc (.cells #[.slice A l.length c] 37) := ⟨_, rfl⟩
  obtain ⟨hc0, hz0, hb0⟩ := box1 hw0
  have c1 := Lib.hid (names_any A c l w0 (h.row.below hb0) h8)
  have HP := Lib.hid h
  have H0 := Lib.hid hb0
  have HC0 := Lib.hid hc0
  have HZ0 := Lib.hid hz0
  have hTl := Lib.hid (show (Gs.msort (txs l)).length = l.length by rw [msort_length, txs_length])
  have hw0' := hw0.symm
  clear h hb0 hw0 hz0
  go_enter Tryz.func87, Tryz.ntmps87
  go_wp2_with (go_at_call 156; refine (c1.out).mono ?_; rintro e w1 ⟨⟨v, rfl, ht1⟩, hb1⟩; obtain ⟨lA, lC, rfl, _⟩ := ht1.form; have HT := Lib.hid ht1; have HB1 := Lib.hid hb1; clear ht1 hb1)
  have hS0 : SLoop l w0.heap.size w1.heap.size (w1.heap.size + 1) w0 (.slice none 0 0) (Gs.msort (txs l)) [] (w1.alloc (.cells #[.slice lA (Gs.msort (txs l)).length lC] 27)) :=
    ⟨by rw [hTl.out]; rfl, TR.nil _ _, ⟨_, Boxed.new _ _ _, HT.out.alloc _, fun g hg => (HT.out.lt g hg).2⟩, fun x hx => by rwa [Gs.msort_mem] at hx,
      by rw [hTl.out]; simpa using h8, HB1.out.alloc HB1.out.size _⟩
  have HS0 := Lib.hid hS0
  have HLB := Lib.hid (show w.heap.size < w1.heap.size by have h1 := HZ0.out; have h2 := HB1.out.size; omega)
  clear hS0
  go_loopg [5] (Gs.msort (txs l)).length (fun gf v wr => ∃ left out, left.length = gf ∧ SLoop l w0.heap.size w1.heap.size (w1.heap.size + 1) w0 v left out wr)
  case atStart => exact ⟨_, _, rfl, HS0.out⟩
  case round =>
    obtain ⟨left, out, hlen, hS⟩ := hrel
    have HS := Lib.hid hS
    have HB := Lib.hid hS.bel
    obtain ⟨u, hbox, htl, hlow⟩ := hS.box
    obtain ⟨uA, uC, rfl, hrow⟩ := htl.form
    have b0 := hbox.cell
    have b1 := hbox.frozen
    have HX := Lib.hid hbox
    have HTL := Lib.hid htl
    have HLOW := Lib.hid hlow
    have HROW := Lib.hid hrow
    have hz0 := HZ0.out
    have hcl := (HB.out.cell (p := ⟨w.heap.size, 0, none⟩) (by simp; omega)).trans HC0.out
    have hLw : w.heap.size < wr.heap.size := by have := HB.out.size; omega
    have HBW := Lib.hid (H0.out.trans (HB.out.mono H0.out.size))
    have HLN := Lib.hid hlen
    have hBw := hbox.lt
    clear hS htl hlow hrow hz0 hlen
    by_cases hne : left = []
    · subst hne
      have e1 := Lib.hid (HS.out.ord.symm.trans (order_zero _ _ out rfl))
      go_wp2_with fail
      go_ret2
      exact ⟨⟨_, by rw [e1.out]; rfl, by rw [e1.out]; exact HS.out.out_.more (by have := HLB.out; omega)⟩, HBW.out⟩
    · have e1 := Lib.hid (HS.out.ord.symm.trans (order_pos _ _ out hne))
      have hpos : (0 : Int) < left.length := by have := List.length_pos_iff.2 hne; omega
      have hll : left.length ≤ 8 := by have := HS.out.len; omega
      have c2 := Lib.hid (IdxTx_any uA uC left 158 #[.pointer (some ⟨w1.heap.size, 0, none⟩), .pointer (some ⟨w.heap.size, 0, none⟩)] (Gs.free (dirT l) left) wr (enters_of Tryz.func158 (by kernel_rfl) rfl) HROW.out (by unfold big; omega)
        (fun x hx W hb => sorted1_any A c l w1.heap.size w.heap.size uA uC left x W (HP.out.below (HBW.out.trans (hb.mono HBW.out.size))) ((hb.cell (by simp; omega)).trans hcl) ((hb.cell (by simp; omega)).trans b0) (HROW.out.below hb) (by unfold big; omega) (HS.out.mem x hx) (by have := hb.size; omega)))
      rw [idxOf_find] at c2
      obtain ⟨k, hk⟩ : ∃ k, k = left.findIdx (Gs.free (dirT l) left) := ⟨_, rfl⟩
      rw [← hk] at c2 e1
      clear hk hbox
      by_cases hkl : k < left.length
      · rw [if_pos hkl] at c2 e1
        have HKR := Lib.hid (fun W (hb : Below wr.heap.size wr W) => tx_at HROW.out hb k hkl)
        obtain ⟨ad, hA, _⟩ := tx_at HROW.out (Below.refl _ _) k hkl
        subst hA
        have eg : left.getD k [] = left[k] := by rw [List.getD_eq_getElem?_getD, List.getElem?_eq_getElem hkl]; rfl
        rw [eg] at e1
        obtain ⟨t, ht⟩ : ∃ t, t = left[k]'hkl := ⟨_, rfl⟩
        rw [← ht] at e1
        simp only [← ht] at HKR
        clear ht eg hne
        have HOL := Lib.hid (show out.length ≤ 1000000 by have := HS.out.len; omega)
        have hkl' : (k : Int) < left.length := by omega
        have HK := Lib.hid hkl
        go_wp2_with (first
          | (go_at_call 157; refine (c2.out).mono ?_; rintro e w3 ⟨rfl, hb3⟩
             have b30 := (hb3.cell (p := ⟨w1.heap.size, 0, none⟩) hBw).trans b0
             obtain ⟨_, eA, _, r3⟩ := HKR.out w3 hb3
             obtain rfl := Option.some.inj eA
             have HB3 := Lib.hid hb3
             have HO3 := Lib.hid (HS.out.out_.below hb3 (Nat.le_refl _))
             have HT3 := Lib.hid (HTL.out.below hb3 (Nat.le_refl _))
             have HX3 := Lib.hid (show Boxed w3 w1.heap.size _ _ from (hb3.block _ HX.out.lt).trans HX.out)
             have HZ3 := Lib.hid (show w1.heap.size + 1 ≤ w3.heap.size by have := HX3.out.lt; omega)
             clear hb3)
          | (at_builtin; refine append_tr w3 rfl _ _ rfl (w1.heap.size + 1) _ out (bs t) rfl rfl (by exact HO3.out) HOL.out HZ3.out ?_; intro v' w4 ht4 hb4
             have b40 := (hb4.cell (p := ⟨w1.heap.size, 0, none⟩) (by simp)).trans b30
             have HB4 := Lib.hid hb4
             have HO4 := Lib.hid ht4
             have HT4 := Lib.hid (HT3.out.at_lt hb4 (fun g hg => by have := HLOW.out g hg; omega))
             have HX4 := Lib.hid (show Boxed w4 w1.heap.size _ _ from (hb4.block _ (by omega)).trans HX3.out)
             clear hb4 ht4)
          | (go_at_call 162; refine (Delete_tr HT4.out HK.out).mono ?_; rintro e w5 ⟨rfl, ht5, hg5⟩
             have HX5 := Lib.hid (HX4.out.kept hg5 (fun q => by have := HLOW.out _ q.symm; omega))
             have b50 := HX5.out.cell
             have b51 := HX5.out.frozen
             have HT5 := Lib.hid ht5
             have HG5 := Lib.hid hg5
             clear ht5 hg5))
        have hE : (left.eraseIdx k).length = left.length - 1 := by rw [List.length_eraseIdx, if_pos HK.out]
        have HE := Lib.hid hE
        clear hE
        go_roundg (left.length - 1)
        case measure => have := HLN.out; omega
        case rel =>
          have hgl : ∀ g, (Value.slice (some ad) left.length uC).ownBlock = some g → g < w1.heap.size := HLOW.out
          have hs := grownBy_setCell' w5 w1.heap.size (.slice (some ad) (left.eraseIdx k).length uC)
          refine ⟨left.eraseIdx k, out ++ [t], HE.out, ?_, ?_, ⟨_, HX5.out.set _, HT5.out.kept hs (.inr (fun q => by have := hgl _ q; omega)), hgl⟩, fun x hx => HS.out.mem x (List.mem_of_mem_eraseIdx hx), ?_, ?_⟩
          · rw [HE.out]; exact e1.out.symm
          · have h4 := HO4.out
            rw [tx_bs] at h4
            exact (h4.kept HG5.out (.inr (fun q => by
              have h1 := hgl ad.block rfl
              exact h4.ne (k := ad.block) (by omega) q))).kept hs (.inr (fun q => by
                have h5 := h4.kept HG5.out (.inr (fun q => by
                  have h1 := hgl ad.block rfl
                  exact h4.ne (k := ad.block) (by omega) q))
                exact h5.ne (k := w1.heap.size) (by omega) q))
          · have := HS.out.len; have := HE.out; have := HK.out; rw [List.length_append]; simp; omega
          · have z1 := HB.out.size
            have z2 := HB3.out.size
            have z3 := HB4.out.size
            have hw1 : w0.heap.size ≤ w1.heap.size := HB1.out.size
            have q4 : Below w0.heap.size w0 w4 := (HB.out.trans (HB3.out.mono z1)).trans (HB4.out.mono (by omega))
            exact (q4.grown HG5.out q4.size (fun g hg => (HTL.out.lt g hg).1)).setCell (p := ⟨w1.heap.size, 0, none⟩) hw1 _
      · rw [if_neg hkl] at c2 e1
        clear hkl
        go_wp2_with (go_at_call 157; refine (c2.out).mono ?_; rintro e w3 ⟨rfl, hb3⟩)
        go_ret2
        exact ⟨⟨_, by rw [e1.out]; rfl, by rw [e1.out]; exact TR.nil _ _⟩, HBW.out.trans (hb3.mono HBW.out.size)⟩


end Go.Proofs.YtjiedaialianmaaGreat
end

section

namespace Go.Proofs.YtjiedaialianmaaGreat
open Go.RowKit
open Gs (Tx)

theorem place_ge {l : List Plc} (hn : (txs l).Nodup) {i : Nat} (hi : i < l.length) : idxOf (named l[i].m.name) l = i := by
  refine idxOf_some hi (fun k hk hki => ?_) (by simp [named])
  unfold named
  refine decide_eq_false (fun e => ?_)
  have := nodup_one hn k i hk hi (by rw [nmN_at hk, nmN_at hi, e])
  omega
theorem twice_at {l : List Plc} {i : Nat} (hi : i < l.length) (h : idxOf (named l[i].m.name) l < i) : isTwice l = true := by
  rw [twice_nodup]
  intro hn
  rw [place_ge hn hi] at h; omega
theorem twice_no {l : List Plc} (h : ∀ i (hi : i < l.length), ¬ idxOf (named l[i].m.name) l < i) : isTwice l = false := by
  cases e : isTwice l
  · rfl
  · rw [twice_nodup] at e
    refine absurd ?_ e
    refine List.pairwise_iff_getElem.2 (fun i j hi hj hij en => ?_)
    rw [txs_length] at hi hj
    have e1 := txs_at hi
    have e2 := txs_at hj
    rw [e1, e2] at en
    have en := tx_inj en
    refine h j hj ?_
    rcases idxOf_cases (named l[j].m.name) l with ⟨_, hno⟩ | ⟨q, hq, eq, _, hmin⟩
    · have := hno l[j] (List.getElem_mem _); simp [named] at this
    · rw [eq]
      have : ¬ i < q := fun hlt => by have := hmin i hi hlt; simp [named, en] at this
      omega
set_option maxHeartbeats 2000000 in
set_option maxRecDepth 100000 in
theorem IsTwice_any (A : Option Addr) (c : Nat) (l : List Plc) (w : World) (h : Row Plc.cells 8 w A l) (hl : l.length ≤ big) :
    Calls Tryz.prog 175 #[.slice A l.length c] w fun e w' => e = .returned (.bool (isTwice l)) ∧ Below w.heap.size w w' := by
  have HL := Lib.hid hl
  unfold big at hl
  have HP := Lib.hid h
  clear h
  obtain ⟨R, hR⟩ : ∃ R, R = isTwice l := ⟨_, rfl⟩
  rw [← hR]
  have HR := Lib.hid hR
  clear hR
  go_enter Tryz.func175, Tryz.ntmps175
  go_wp2_with fail
  go_loopw [3] (fun i wr => ∃ j : Nat, j ≤ l.length ∧ i = .int .i64 j ∧ (∀ k (hk : k < l.length), k < j → (k : Int) ≤ idxOf (named l[k].m.name) l) ∧ Below w.heap.size w wr) (fun i _ => l.length - (intOf i).toNat)
  case atStart => exact ⟨0, by omega, rfl, by omega, Below.refl _ _⟩
  case round =>
    obtain ⟨j, hj, rfl, hN, hb⟩ := hrel
    have HN := Lib.hid hN
    have HB := Lib.hid hb
    clear hN
    by_cases hlt : j < l.length
    · have hlt' : (j : Int) < l.length := by omega
      have hpl := PlaceOf_any A c l l[j].m.name wr (HP.out.below hb) HL.out
      obtain ⟨ad, rfl, hab, h0, h1, h2, h3, h4, h5, h6, h7⟩ := plc_at HP.out hb j hlt
      obtain ⟨pi, hpi⟩ : ∃ pi, pi = idxOf (named l[j].m.name) l := ⟨_, rfl⟩
      rw [← hpi] at hpl
      have c1 := Lib.hid hpl
      clear hb hpl
      by_cases he : pi < j
      · have hrr := Lib.hid (show R = true by rw [HR.out]; exact twice_at hlt (by omega))
        clear hpi
        go_wp2_with (go_at_call 105; refine (c1.out).mono ?_; rintro e w3 ⟨rfl, hb3⟩)
        go_ret
        exact ⟨ret_bool hrr.out.symm, HB.out.trans (hb3.mono HB.out.size)⟩
      · have HEE := Lib.hid (show (j : Int) ≤ idxOf (named l[j].m.name) l by omega)
        have he' : decide (pi < j) = false := by simp; omega
        clear hpi he
        go_wp2_with (go_at_call 105; refine (c1.out).mono ?_; rintro e w3 ⟨rfl, hb3⟩)
        go_roundw
        case rel => exact ⟨j + 1, by omega, by go_num, fun k hk hkj => by rcases Nat.lt_succ_iff_lt_or_eq.1 hkj with h | rfl; exact HN.out k hk h; exact HEE.out, HB.out.trans (hb3.mono HB.out.size)⟩
        case measure => (simp [intOf]; try omega)
    · have hrr := Lib.hid (show R = false by rw [HR.out]; exact twice_no (fun i hi => by have := HN.out i hi (by omega); omega))
      clear hb
      go_wp2_with fail
      go_ret
      exact ⟨ret_bool hrr.out.symm, HB.out⟩

end Go.Proofs.YtjiedaialianmaaGreat
end

section

namespace Go.Proofs.YtjiedaialianmaaGreat
open Go.RowKit Go.Lib Go.Sort
open Gs (Tx)



set_option maxHeartbeats 2000000 in
set_option maxRecDepth 100000 in
theorem Direct_any (A : Option Addr) (c : Nat) (l : List Plc) (i k : Nat) (w : World) (h : PlsOk w A l) (hi : i < l.length) (hk : k < l.length) :
    Calls Tryz.prog 109 #[.slice A l.length c, .int .i64 i, .int .i64 k] w fun e w' => e = .returned (.bool (asks l[i].m (tx l[k].m.name))) ∧ Below w.heap.size w w' := by
  rw [asks_any]
  have hm := h.each l[i] (List.getElem_mem _)
  have hlen := h.len
  have hml := hm.im.2.1
  unfold big at hlen hml
  obtain ⟨ad, rfl, hab, _⟩ := plc_at h.row (Below.refl _ _) i hi
  have KI := Lib.hid (fun W (hbW : Below w.heap.size w W) => plc_at h.row hbW i hi)
  have KK := Lib.hid (fun W (hbW : Below w.heap.size w W) => plc_at h.row hbW k hk)
  have HM := Lib.hid hm.im.1
  have hi' : (i : Int) < l.length := by omega
  have hk' : (k : Int) < l.length := by omega
  obtain ⟨x, hx⟩ : ∃ x, x = l[i].m := ⟨_, rfl⟩
  obtain ⟨y, hy⟩ : ∃ y, y = l[k].m := ⟨_, rfl⟩
  rw [← hx] at HM hml ⊢
  simp only [← hx] at KI
  simp only [← hy] at KK
  rw [← hy]
  obtain ⟨R, hR⟩ : ∃ R, R = x.im.any (asksQ y.name) := ⟨_, rfl⟩
  rw [← hR]
  have HR := Lib.hid hR
  clear hR hm h hx hy
  go_enter Tryz.func109, Tryz.ntmps109
  go_wp2_with fail
  go_loopw [7] (fun n wr => ∃ j : Nat, j ≤ x.im.length ∧ n = .int .i64 j ∧ (∀ q (hq : q < x.im.length), q < j → asksQ y.name x.im[q] = false) ∧ Below w.heap.size w wr) (fun i _ => x.im.length - (intOf i).toNat)
  case atStart => exact ⟨0, by omega, rfl, by omega, Below.refl _ _⟩
  case round =>
    obtain ⟨j, hj, rfl, hN, hb⟩ := hrel
    have HN := Lib.hid hN
    have HB := Lib.hid hb
    clear hN
    obtain ⟨_, ea, _, a0, a1, a2, a3, a4, a5, a6, a7⟩ := KI.out _ hb
    obtain rfl := Option.some.inj ea
    obtain ⟨_, ea, _, b0, b1, b2, b3, b4, b5, b6, b7⟩ := KK.out _ hb
    obtain rfl := Option.some.inj ea
    by_cases hlt : j < x.im.length
    · have hlt' : (j : Int) < x.im.length := by omega
      obtain ⟨bd, hbd, hbb, h0, h1, h2, h3⟩ := imp_at HM.out hb j hlt
      rw [hbd] at a5
      clear hb hbd
      by_cases he : x.im[j].mod = y.name
      · have he' := str_eq he
        have hrr := Lib.hid (show R = true by rw [HR.out]; exact List.any_eq_true.2 ⟨_, List.getElem_mem hlt, by simp [asksQ, he]⟩)
        clear he
        go_wp2_with fail
        go_quiet (fail)
        go_wp2_with fail
        go_ret
        exact ⟨ret_bool hrr.out.symm, below_drewN HB.out _⟩
      · have he' := str_ne he
        have HEE := Lib.hid (show asksQ y.name x.im[j] = false by simp [asksQ, he])
        clear he
        go_wp2_with fail
        go_quiet (fail)
        go_wp2_with fail
        go_roundw
        case rel => exact ⟨j + 1, by omega, by go_num, fun k hk hkj => by rcases Nat.lt_succ_iff_lt_or_eq.1 hkj with h | rfl; exact HN.out k hk h; exact HEE.out, below_drewN HB.out _⟩
        case measure => (simp [intOf]; try omega)
    · have hrr := Lib.hid (show R = false by
        rw [HR.out, List.any_eq_false]
        intro z hz
        obtain ⟨q, hq, e⟩ := List.getElem_of_mem hz
        rw [← e, HN.out q hq (by omega)]; simp)
      clear hb
      go_wp2_with fail
      go_ret
      exact ⟨ret_bool hrr.out.symm, HB.out⟩

end Go.Proofs.YtjiedaialianmaaGreat
end
