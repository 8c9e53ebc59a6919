import Derived.Test.YtogckcjcebckgaaGreatG04
import Derived.Test.YtogckcjcebckgaaGreatG05
import Derived.Test.YtogckcjcebckgaaGreatG01
import Derived.Test.YtogckcjcebckgaaGreatG03
import Derived.Deep.LoopGhost
section
/- Does one need another one by itself (chapter E)? graph.direct; slices.IndexFunc, ContainsFunc at imports, at texts. -/
namespace Go.Proofs.YtogckcjcebckgaaGreat
open Go.RowKit Go.Sort
open Gs (Tx)

theorem idxOf_any {α : Type} (q : α → Bool) (l : List α) : decide (0 ≤ idxOf q l) = l.any q := by
  rcases idxOf_cases q l with ⟨e, h⟩ | ⟨j, hj, e, h, _⟩
  · rw [e]
    refine (decide_eq_false (by omega)).trans (Eq.symm ?_)
    rw [List.any_eq_false]
    exact fun x hx => by simp [h x hx]
  · rw [e]
    exact (decide_eq_true (by omega)).trans (List.any_eq_true.2 ⟨_, List.getElem_mem hj, h⟩).symm
set_option maxHeartbeats 2000000 in
set_option maxRecDepth 100000 in
theorem IdxImp_any (A : Option Addr) (c : Nat) (l : List Imp) (g : Nat) (lb : Array Value) (q : Imp → Bool) (w : World) (eg : ∀ args w, (callFunc g args).run Tryz.prog w = .ok (.enter g args) w) (h : Row Imp.cells 4 w A l) (hl : l.length ≤ big)
    (hq : ∀ x ∈ l, ∀ W, Below w.heap.size w W → Calls Tryz.prog g (#[x.v] ++ lb) W fun e w' => e = .returned (.bool (q x)) ∧ Below W.heap.size W w') :
    Calls Tryz.prog 259 #[.slice A l.length c, .func (.func g) #[] lb] w fun e w' => e = .returned (.int .i64 (idxOf q l)) ∧ Below w.heap.size w w' := by
  unfold big at hl
  have HP := Lib.hid h
  have HQ := Lib.hid hq
  clear h hq
  go_enter Tryz.func259, Tryz.ntmps259
  go_wp2_with fail
  go_loopw [8] (fun i wr => ∃ j : Nat, j ≤ l.length ∧ i = .int .i64 j ∧ (∀ k (hk : k < l.length), k < j → q l[k] = false) ∧ Below w.heap.size w wr) (fun i _ => l.length - (intOf i).toNat)
  case atStart => exact ⟨0, by omega, rfl, by omega, Below.refl _ _⟩
  case round =>
    obtain ⟨j, hj, rfl, hN, hb⟩ := hrel
    have HN := Lib.hid hN
    have HB := Lib.hid hb
    clear hN
    by_cases hlt : j < l.length
    · have hlt' : (j : Int) < l.length := by omega
      obtain ⟨ad, rfl, hab, h0, h1, h2, h3⟩ := imp_at HP.out hb j hlt
      have hwz := hb.size
      have c2 := Lib.hid (show Calls Tryz.prog g (#[(l[j]'hlt).v] ++ lb) wr fun e w' => e = .returned (.bool (q (l[j]'hlt))) ∧ Below wr.heap.size wr w' from HQ.out (l[j]'hlt) (List.getElem_mem _) wr HB.out)
      obtain ⟨bq, hbq⟩ : ∃ bq, bq = q (l[j]'hlt) := ⟨_, rfl⟩
      rw [← hbq] at c2
      have HBQ := Lib.hid hbq
      clear hbq hb
      cases bq
      · go_wp2_with (go_at_fn g; refine (c2.out).mono ?_; rintro e w3 ⟨rfl, hb3⟩)
        go_roundw
        case rel => exact ⟨j + 1, by omega, by go_num, fun k hk hkj => by rcases Nat.lt_succ_iff_lt_or_eq.1 hkj with h | rfl; exact HN.out k hk h; exact HBQ.out.symm, HB.out.trans (hb3.mono (by omega))⟩
        case measure => (simp [intOf]; try omega)
      · have e1 := Lib.hid (idxOf_some hlt HN.out HBQ.out.symm)
        go_wp2_with (go_at_fn g; refine (c2.out).mono ?_; rintro e w3 ⟨rfl, hb3⟩)
        go_ret
        exact ⟨ret_int e1.out.symm, HB.out.trans (hb3.mono (by omega))⟩
    · have e1 := Lib.hid (idxOf_none (q := q) (l := l) (fun k hk => HN.out k hk (by omega)))
      go_wp2_with fail
      go_ret
      exact ⟨ret_int e1.out.symm, HB.out⟩
set_option maxHeartbeats 1000000 in
set_option maxRecDepth 100000 in
theorem ContImp_any (A : Option Addr) (c : Nat) (l : List Imp) (g : Nat) (lb : Array Value) (q : Imp → Bool) (w : World) (eg : ∀ args w, (callFunc g args).run Tryz.prog w = .ok (.enter g args) w) (h : Row Imp.cells 4 w A l) (hl : l.length ≤ big)
    (hq : ∀ x ∈ l, ∀ W, Below w.heap.size w W → Calls Tryz.prog g (#[x.v] ++ lb) W fun e w' => e = .returned (.bool (q x)) ∧ Below W.heap.size W w') :
    Calls Tryz.prog 228 #[.slice A l.length c, .func (.func g) #[] lb] w fun e w' => e = .returned (.bool (l.any q)) ∧ Below w.heap.size w w' := by
  have c1 := Lib.hid (IdxImp_any A c l g lb q w eg h hl hq)
  have e1 := Lib.hid (idxOf_any q l)
  generalize l.any q = b at *
  generalize idxOf q l = i at *
  clear h hq
  go_enter Tryz.func228, Tryz.ntmps228
  go_wp2_with (go_at_call 259; refine (c1.out).mono ?_; rintro e w3 ⟨rfl, hb3⟩)
  go_ret
  exact ⟨ret_bool e1.out, hb3⟩
set_option maxHeartbeats 2000000 in
set_option maxRecDepth 100000 in
theorem IdxTx_any (A : Option Addr) (c : Nat) (l : List Tx) (g : Nat) (lb : Array Value) (q : Tx → Bool) (w : World) (eg : ∀ args w, (callFunc g args).run Tryz.prog w = .ok (.enter g args) w) (h : TxRow w A l) (hl : l.length ≤ big)
    (hq : ∀ x ∈ l, ∀ W, Below w.heap.size w W → Calls Tryz.prog g (#[.string (bs x)] ++ lb) W fun e w' => e = .returned (.bool (q x)) ∧ Below W.heap.size W w') :
    Calls Tryz.prog 165 #[.slice A l.length c, .func (.func g) #[] lb] w fun e w' => e = .returned (.int .i64 (idxOf q l)) ∧ Below w.heap.size w w' := by
  unfold big at hl
  have HP := Lib.hid h
  have HQ := Lib.hid hq
  clear h hq
  go_enter Tryz.func165, Tryz.ntmps165
  go_wp2_with fail
  go_loopw [8] (fun i wr => ∃ j : Nat, j ≤ l.length ∧ i = .int .i64 j ∧ (∀ k (hk : k < l.length), k < j → q l[k] = false) ∧ Below w.heap.size w wr) (fun i _ => l.length - (intOf i).toNat)
  case atStart => exact ⟨0, by omega, rfl, by omega, Below.refl _ _⟩
  case round =>
    obtain ⟨j, hj, rfl, hN, hb⟩ := hrel
    have HN := Lib.hid hN
    have HB := Lib.hid hb
    clear hN
    by_cases hlt : j < l.length
    · have hlt' : (j : Int) < l.length := by omega
      obtain ⟨ad, rfl, hab, h0⟩ := tx_at HP.out hb j hlt
      have hwz := hb.size
      have c2 := Lib.hid (show Calls Tryz.prog g (#[.string (bs (l[j]'hlt))] ++ lb) wr fun e w' => e = .returned (.bool (q (l[j]'hlt))) ∧ Below wr.heap.size wr w' from HQ.out (l[j]'hlt) (List.getElem_mem _) wr HB.out)
      obtain ⟨bq, hbq⟩ : ∃ bq, bq = q (l[j]'hlt) := ⟨_, rfl⟩
      rw [← hbq] at c2
      have HBQ := Lib.hid hbq
      clear hbq hb
      cases bq
      · go_wp2_with (go_at_fn g; refine (c2.out).mono ?_; rintro e w3 ⟨rfl, hb3⟩)
        go_roundw
        case rel => exact ⟨j + 1, by omega, by go_num, fun k hk hkj => by rcases Nat.lt_succ_iff_lt_or_eq.1 hkj with h | rfl; exact HN.out k hk h; exact HBQ.out.symm, HB.out.trans (hb3.mono (by omega))⟩
        case measure => (simp [intOf]; try omega)
      · have e1 := Lib.hid (idxOf_some hlt HN.out HBQ.out.symm)
        go_wp2_with (go_at_fn g; refine (c2.out).mono ?_; rintro e w3 ⟨rfl, hb3⟩)
        go_ret
        exact ⟨ret_int e1.out.symm, HB.out.trans (hb3.mono (by omega))⟩
    · have e1 := Lib.hid (idxOf_none (q := q) (l := l) (fun k hk => HN.out k hk (by omega)))
      go_wp2_with fail
      go_ret
      exact ⟨ret_int e1.out.symm, HB.out⟩
set_option maxHeartbeats 1000000 in
set_option maxRecDepth 100000 in
theorem ContTx_any (A : Option Addr) (c : Nat) (l : List Tx) (g : Nat) (lb : Array Value) (q : Tx → Bool) (w : World) (eg : ∀ args w, (callFunc g args).run Tryz.prog w = .ok (.enter g args) w) (h : TxRow w A l) (hl : l.length ≤ big)
    (hq : ∀ x ∈ l, ∀ W, Below w.heap.size w W → Calls Tryz.prog g (#[.string (bs x)] ++ lb) W fun e w' => e = .returned (.bool (q x)) ∧ Below W.heap.size W w') :
    Calls Tryz.prog 167 #[.slice A l.length c, .func (.func g) #[] lb] w fun e w' => e = .returned (.bool (l.any q)) ∧ Below w.heap.size w w' := by
  have c1 := Lib.hid (IdxTx_any A c l g lb q w eg h hl hq)
  have e1 := Lib.hid (idxOf_any q l)
  generalize l.any q = b at *
  generalize idxOf q l = i at *
  clear h hq
  go_enter Tryz.func167, Tryz.ntmps167
  go_wp2_with (go_at_call 165; refine (c1.out).mono ?_; rintro e w3 ⟨rfl, hb3⟩)
  go_ret
  exact ⟨ret_bool e1.out, hb3⟩

def asksQ (b : ByteArray) (x : Imp) : Bool := decide (x.mod = b)
theorem asks_any (m : Mod) (b : ByteArray) : asks m (tx b) = m.im.any (asksQ b) := by
  unfold asks
  congr 1
  funext i
  unfold asksQ
  by_cases h : i.mod = b
  · simp [h]
  · have : tx i.mod ≠ tx b := fun e => h (tx_inj e)
    simp [h, this]
set_option maxHeartbeats 1000000 in
set_option maxRecDepth 100000 in
theorem asksQ_any (x : Imp) (b : ByteArray) (B : Nat) (w : World) (hB : B < w.heap.size) (h : w.cell? ⟨B, 0, none⟩ = some (.string b)) :
    Calls Tryz.prog 229 (#[x.v] ++ #[.pointer (some ⟨B, 0, none⟩)]) w fun e w' => e = .returned (.bool (asksQ b x)) ∧ Below w.heap.size w w' := by
  have hd : asksQ b x = (x.mod.toList == b.toList) := by
    unfold asksQ
    by_cases e : x.mod = b
    · rw [str_eq e]; simp [e]
    · rw [str_ne e]; simp [e]
  rw [hd]
  go_enter Tryz.func229, Tryz.ntmps229
  go_wp2_with fail
  go_ret
  exact ⟨rfl, (Below.refl _ _).alloc (Nat.le_refl _) _⟩

theorem dirT_at {l : List Plc} {a : ByteArray} {b : Tx} {j : Nat} (hj : j < l.length) (h : l.find? (named a) = some l[j]) : dirT l (tx a) b = asks l[j].m b := by
  unfold dirT; rw [isAt_named, h]
theorem named_mem {l : List Plc} {a : ByteArray} (h : tx a ∈ txs l) : ∃ j, ∃ hj : j < l.length, idxOf (named a) l = j ∧ l.find? (named a) = some l[j] := by
  rcases find_cases (named a) l with ⟨_, h2⟩ | h
  · obtain ⟨x, hx, e⟩ := List.mem_map.1 h
    have := List.find?_eq_none.1 h2 x hx
    exact absurd (decide_eq_true (tx_inj e)) this
  · exact h
set_option maxHeartbeats 2000000 in
set_option maxRecDepth 100000 in
theorem direct_any (A : Option Addr) (c : Nat) (l : List Plc) (a b : ByteArray) (w : World) (h : PlsOk w A l) (ha : tx a ∈ txs l) :
    Calls Tryz.prog 169 #[.slice A l.length c, .string a, .string b] w fun e w' => e = .returned (.bool (dirT l (tx a) (tx b))) ∧ Below w.heap.size w w' := by
  obtain ⟨j, hj, e1, e2⟩ := named_mem ha
  rw [dirT_at hj e2, asks_any]
  obtain ⟨w0, hw0⟩ : ∃ w0, w0 = w.alloc (.cells #[.string b] 9) := ⟨_, rfl⟩
  obtain ⟨hc0, hz0, hb0⟩ := box1 hw0
  have hm := h.each l[j] (List.getElem_mem _)
  have c1 := Lib.hid (Place_any A c l a w0 (h.row.below hb0) h.len)
  have c2 := Lib.hid (fun W (hb : Below w0.heap.size w0 W) => ContImp_any (l[j]'hj).m.iA (l[j]'hj).m.iC (l[j]'hj).m.im 229 #[.pointer (some ⟨w.heap.size, 0, none⟩)] (asksQ b) W (enters_of Tryz.func229 (by kernel_rfl) rfl) ((hm.below hb0).im.1.below hb) hm.im.2.1
    (fun x _ W' hb' => asksQ_any x b w.heap.size W' (by have := hb.size; have := hb'.size; omega) ((hb'.cell (by have := hb.size; simp; omega)).trans ((hb.cell (by simp; omega)).trans hc0))))
  rw [e1] at c1
  have HK := Lib.hid (fun W (hbW : Below w.heap.size w W) => plc_at h.row hbW j hj)
  obtain ⟨ad, rfl, _⟩ := plc_at h.row (Below.refl _ _) j hj
  have H0 := Lib.hid hb0
  have hw0' := hw0.symm
  have hj' : (j : Int) < l.length := by omega
  have hlen := h.len
  unfold big at hlen
  generalize (l[j].m.im.any (asksQ b)) = R at *
  clear hw0 hb0 h hm e1 e2 ha
  go_enter Tryz.func169, Tryz.ntmps169
  go_wp2_with (first
    | (go_at_call 134; refine (c1.out).mono ?_; rintro e w1 ⟨rfl, hb1⟩; obtain ⟨_, ead, _, k0, k1, k2, k3, k4, k5, k6, k7⟩ := HK.out _ (H0.out.trans (hb1.mono (by omega))); obtain rfl := Option.some.inj ead)
    | (go_at_call 228; refine (c2.out _ hb1).mono ?_; rintro e w3 ⟨rfl, hb3⟩))
  go_ret
  exact ⟨rfl, H0.out.trans ((hb1.trans (hb3.mono hb1.size)).mono (by omega))⟩

end Go.Proofs.YtogckcjcebckgaaGreat
end

section
/- Plain Lean: the walk in depth, told one by one (chapter E). No program in sight. -/
open Go
namespace Go.Proofs.YtogckcjcebckgaaGreat
namespace Gr
section
variable {N : Type}

/-- what it keeps of those that are met: nothing is lost, each is there once, all are of the row -/
structure Keeps (all m M : List N) : Prop where
  sub : ∀ x, x ∈ m → x ∈ M
  nd : m.Nodup → M.Nodup
  inn : (∀ x, x ∈ m → x ∈ all) → ∀ x, x ∈ M → x ∈ all
theorem Keeps.refl (all m : List N) : Keeps all m m := ⟨fun _ h => h, fun h => h, fun h => h⟩
theorem Keeps.trans {all a b c : List N} (h : Keeps all a b) (k : Keeps all b c) : Keeps all a c := ⟨fun x hx => k.sub x (h.sub x hx), fun n => k.nd (h.nd n), fun n => k.inn (h.inn n)⟩
theorem Keeps.cons {all m : List N} {b : N} (hb : b ∈ all) (hn : b ∉ m) : Keeps all m (b :: m) :=
  ⟨fun x hx => List.mem_cons_of_mem _ hx, fun n => List.nodup_cons.2 ⟨hn, n⟩, fun n x hx => by
    rcases List.mem_cons.1 hx with rfl | q
    · exact hb
    · exact n x q⟩

theorem fold_keeps {all : List N} {F : List N → N → List N} (hF : ∀ m b, b ∈ all → Keeps all m (F m b)) : ∀ (l m : List N), (∀ x, x ∈ l → x ∈ all) → Keeps all m (l.foldl F m)
  | [], m, _ => Keeps.refl _ _
  | b :: l, m, h => by
    rw [List.foldl_cons]
    exact (hF m b (h b List.mem_cons_self)).trans (fold_keeps hF l _ (fun x hx => h x (List.mem_cons_of_mem _ hx)))
end
section
variable {N : Type} [DecidableEq N]
/-- one turn of the walk's loop -/
def stp (all : List N) (r : N → N → Bool) (f : Nat) (a : N) (m : List N) (b : N) : List N := if b ∉ m ∧ r a b = true then visit all r f (b :: m) b else m
theorem visit_stp (all : List N) (r : N → N → Bool) (f : Nat) (m : List N) (a : N) : visit all r (f + 1) m a = all.foldl (stp all r f a) m := rfl

theorem visit_keeps (all : List N) (r : N → N → Bool) : ∀ (f : Nat) (m : List N) (a : N), Keeps all m (visit all r f m a)
  | 0, m, _ => Keeps.refl _ _
  | f + 1, m, a => by
    rw [visit_stp]
    refine fold_keeps (fun m b hb => ?_) all m (fun _ h => h)
    unfold stp
    split
    · rename_i h
      exact (Keeps.cons hb h.1).trans (visit_keeps all r f _ _)
    · exact Keeps.refl _ _
theorem stp_keeps (all : List N) (r : N → N → Bool) (f : Nat) (a : N) {b : N} (hb : b ∈ all) (m : List N) : Keeps all m (stp all r f a m b) := by
  unfold stp
  split
  · rename_i h
    exact (Keeps.cons hb h.1).trans (visit_keeps all r f _ _)
  · exact Keeps.refl _ _
/-- so far in the loop -/
def sofar (all : List N) (r : N → N → Bool) (f : Nat) (a : N) (m : List N) (j : Nat) : List N := (all.take j).foldl (stp all r f a) m
theorem sofar_zero (all : List N) (r : N → N → Bool) (f : Nat) (a : N) (m : List N) : sofar all r f a m 0 = m := rfl
theorem sofar_succ {all : List N} {r : N → N → Bool} {f : Nat} {a : N} {m : List N} {j : Nat} (h : j < all.length) : sofar all r f a m (j + 1) = stp all r f a (sofar all r f a m j) all[j] := by
  unfold sofar; rw [List.take_succ_eq_append_getElem h, List.foldl_append, List.foldl_cons, List.foldl_nil]
theorem sofar_end {all : List N} {r : N → N → Bool} {f : Nat} {a : N} {m : List N} {j : Nat} (h : ¬ j < all.length) : sofar all r f a m j = visit all r (f + 1) m a := by
  unfold sofar; rw [List.take_of_length_le (by omega)]; rfl
theorem sofar_keeps (all : List N) (r : N → N → Bool) (f : Nat) (a : N) (m : List N) (j : Nat) : Keeps all m (sofar all r f a m j) :=
  fold_keeps (fun m _ hb => stp_keeps all r f a hb m) _ _ (fun _ hx => List.mem_of_mem_take hx)

theorem nodup_le : ∀ {m all : List N}, m.Nodup → (∀ x, x ∈ m → x ∈ all) → m.length ≤ all.length
  | [], _, _, _ => Nat.zero_le _
  | b :: m, all, hn, h => by
    have hn' := List.nodup_cons.1 hn
    have hb := h b List.mem_cons_self
    have ih := nodup_le (m := m) (all := all.erase b) hn'.2 (fun x hx => by
      have ne : x ≠ b := fun e => hn'.1 (e ▸ hx)
      exact (List.mem_erase_of_ne ne).2 (h x (List.mem_cons_of_mem _ hx)))
    rw [List.length_erase_of_mem hb] at ih
    have := List.length_pos_of_mem hb
    rw [List.length_cons]; omega
end
end Gr
end Go.Proofs.YtogckcjcebckgaaGreat
end

section
/- The walk in depth (chapter E): walker.walk, graph.reach. -/
namespace Go.Proofs.YtogckcjcebckgaaGreat
open Go.RowKit Go.Maps Go.WideMaps Go.Sort
open Gs (Tx)

theorem cnt_perm {ks ks' : List ByteArray} (h : ks.Perm ks') (s : ByteArray) : cnt ks s = cnt ks' s := by
  unfold cnt; rw [(h.filter _).length_eq]
theorem Counts.perm {w : World} {b n : Nat} {ks ks' : List ByteArray} (h : Counts w b n ks) (p : ks.Perm ks') : Counts w b n ks' := by
  obtain ⟨D, h1, h2⟩ := h
  exact ⟨D, h1, fun s => by rw [h2, cnt_perm p]⟩
/-- the map in block b: who is met -/
def Mt (w : World) (b : Nat) (M : List Tx) : Prop := Counts w b M.length (M.map bs)
theorem Mt.put {w : World} {b : Nat} {M : List Tx} {s : Tx} (h : Counts w b (M.length + 1) (M.map bs ++ [bs s])) : Mt w b (s :: M) := by
  unfold Mt
  refine Counts.perm h ?_
  rw [List.map_cons]
  exact List.perm_append_comm (l₁ := M.map bs) (l₂ := [bs s])
theorem Mt.lt {w : World} {b : Nat} {M : List Tx} (h : Mt w b M) : b < w.heap.size := Counts.lt h
theorem Mt.kept {w w' : World} {b B : Nat} {M : List Tx} (h : Mt w b M) (hb : Below B w w') (hB : b < B) : Mt w' b M := Counts.kept h hb hB
theorem bs_inj {a b : Tx} (h : bs a = bs b) : a = b := by rw [← tx_bs a, h, tx_bs]
theorem met_cnt {M : List Tx} {s : Tx} : 0 < cnt (M.map bs) (bs s) ↔ s ∈ M := by
  rw [cnt_pos, List.mem_map]
  exact ⟨fun ⟨x, hx, e⟩ => by rw [← bs_inj e]; exact hx, fun h => ⟨s, h, rfl⟩⟩
theorem met_zero {M : List Tx} {s : Tx} (h : s ∉ M) : cnt (M.map bs) (bs s) = 0 := by
  have := cnt_le (M.map bs) (bs s)
  have h2 : ¬ 0 < cnt (M.map bs) (bs s) := fun k => h (met_cnt.1 k)
  omega

/-- a walker that lies in block p, its map in block b -/
structure Wk (w0 : World) (T : List Tx) (tA : Option Addr) (tC g : Nat) (lb : Array Value) (p b : Nat) (w : World) : Prop where
  below : Below w0.heap.size w0 w
  f0 : w.cell? ⟨p, 0, none⟩ = some (.slice tA T.length tC)
  f1 : w.cell? ⟨p, 1, none⟩ = some (.map (some b))
  f2 : w.cell? ⟨p, 2, none⟩ = some (.func (.func g) #[] lb)
  row : TxRow w tA T
  pb : p ≠ b
  low : w0.heap.size ≤ b
  rb : ∀ ad, tA = some ad → ad.block ≠ b
  plt : p < w.heap.size
theorem reads_but {w w' : World} {size n b : Nat} {A : Option Addr} {xs : List Value} (h : Reads w w.heap.size size A n xs) (hg : w.grownBy w' (some b)) (hr : ∀ ad, A = some ad → ad.block ≠ b) : Reads w' w'.heap.size size A n xs :=
  ⟨h.1, fun hn => by
    obtain ⟨ad, e, hlt, hc⟩ := h.2 hn
    refine ⟨ad, e, Nat.lt_of_lt_of_le hlt hg.size, fun j u hu => hg.cell (hc j u hu) ?_⟩
    rw [block_of_add]
    exact fun q => hr ad e (Option.some.inj q)⟩
theorem Wk.keep {w0 : World} {T : List Tx} {tA : Option Addr} {tC g : Nat} {lb : Array Value} {p b : Nat} {w w' : World} (h : Wk w0 T tA tC g lb p b w) (hg : w.grownBy w' (some b)) : Wk w0 T tA tC g lb p b w' where
  below := h.below.grown hg h.below.size (fun k hk => by cases hk; exact h.low)
  f0 := hg.cell h.f0 (fun q => h.pb (Option.some.inj q))
  f1 := hg.cell h.f1 (fun q => h.pb (Option.some.inj q))
  f2 := hg.cell h.f2 (fun q => h.pb (Option.some.inj q))
  row := reads_but h.row hg h.rb
  pb := h.pb
  low := h.low
  rb := h.rb
  plt := Nat.lt_of_lt_of_le h.plt hg.size

section
variable (w0 : World) (T : List Tx) (tA : Option Addr) (tC g : Nat) (lb : Array Value) (p b : Nat) (r : Tx → Tx → Bool)
set_option maxHeartbeats 4000000 in
set_option maxRecDepth 100000 in
theorem walk_any (eg : ∀ args w, (callFunc g args).run Tryz.prog w = .ok (.enter g args) w) (hT8 : T.length ≤ 8) (hs : ∀ t ∈ T, (bs t).size ≤ huge)
    (hq : ∀ x ∈ T, ∀ y ∈ T, ∀ W, Below w0.heap.size w0 W → Calls Tryz.prog g (#[.string (bs x), .string (bs y)] ++ lb) W fun e w' => e = .returned (.bool (r x y)) ∧ Below W.heap.size W w') :
    ∀ (f : Nat) (a : Tx) (M : List Tx) (w : World), Gr.unmet T M + 1 ≤ f → a ∈ T → M.Nodup → (∀ x ∈ M, x ∈ T) → Wk w0 T tA tC g lb p b w → Mt w b M →
    Calls Tryz.prog 269 #[.pointer (some ⟨p, 0, none⟩), .string (bs a)] w fun e w' => e = .returned (.tuple #[]) ∧ Mt w' b (Gr.visit T r f M a) ∧ w.grownBy w' (some b)
  | 0, a, M, w, hf, _, _, _, _, _ => by omega
  | f + 1, a, M, w, hf, ha, hn, hin, hk, hm => by
    have ih := Lib.hid (walk_any eg hT8 hs hq f)
    have HS := Lib.hid hs
    have HQ := Lib.hid hq
    have HF := Lib.hid hf
    have HA := Lib.hid ha
    have HN := Lib.hid hn
    have HI := Lib.hid hin
    have HK := Lib.hid hk
    have HM := Lib.hid hm
    have a0 := hk.f0
    clear hs hq hf ha hn hin hm hk
    go_enter Tryz.func269, Tryz.ntmps269
    go_wp2_with fail
    clear a0
    go_loopw [11] (fun i wr => ∃ j : Nat, j ≤ T.length ∧ i = .int .i64 j ∧ Mt wr b (Gr.sofar T r f a M j) ∧ w.grownBy wr (some b)) (fun i _ => T.length - (intOf i).toNat)
    case atStart => exact ⟨0, by omega, rfl, HM.out, World.grownBy.refl _ _⟩
    case round =>
      obtain ⟨j, hj, rfl, hmt, hgr⟩ := hrel
      have HT := Lib.hid hmt
      have HG := Lib.hid hgr
      have HW := Lib.hid (HK.out.keep hgr)
      have hblt := hmt.lt
      have hplt := HW.out.plt
      clear hmt hgr
      by_cases hlt : j < T.length
      · have hlt' : (j : Int) < T.length := by omega
        obtain ⟨ad, hA, hab, h0⟩ := tx_at HW.out.row (Below.refl _ _) j hlt
        have HADB := Lib.hid (HW.out.rb ad hA)
        subst hA
        have f0 := HW.out.f0
        have f1 := HW.out.f1
        have f2 := HW.out.f2
        have hmem := Lib.hid (show T[j] ∈ T from List.getElem_mem _)
        have HNX := Lib.hid (Gr.sofar_succ (r := r) (f := f) (a := a) (m := M) hlt)
        have KP := Lib.hid (Gr.sofar_keeps T r f a M j)
        obtain ⟨M', hM'⟩ : ∃ M', M' = Gr.sofar T r f a M j := ⟨_, rfl⟩
        rw [← hM'] at HT HNX KP
        clear hM'
        obtain ⟨t, ht⟩ : ∃ t, t = T[j]'hlt := ⟨_, rfl⟩
        rw [← ht] at h0 hmem HNX
        clear ht
        have HL := Lib.hid (Gr.nodup_le (KP.out.nd HN.out) (KP.out.inn HI.out))
        have hsh := Lib.hid (HS.out t hmem.out)
        have hkl := Lib.hid (show (M'.map bs).length ≤ big by rw [List.length_map]; have := HL.out; unfold big; omega)
        have hjl := Lib.hid (show M'.length ≤ big by have := HL.out; unfold big; omega)
        obtain ⟨cn, hcn⟩ : ∃ cn, cn = cnt (M'.map bs) (bs t) := ⟨_, rfl⟩
        have HC := Lib.hid hcn
        by_cases hmem' : t ∈ M'
        · have e1 := Lib.hid (show Gr.sofar T r f a M (j + 1) = M' by rw [HNX.out]; unfold Gr.stp; rw [if_neg (fun h => h.1 hmem')])
          have t0 : (cn == 0) = false := by have := met_cnt.2 hmem'; rw [← hcn] at this; simp; omega
          clear hcn hmem'
          go_wp2_with (at_lookup; refine counts_lookup _ rfl _ _ rfl b M'.length (M'.map bs) HT.out (bs t) hsh.out rfl rfl cn HC.out ?_)
          go_roundw
          case rel => exact ⟨j + 1, by omega, by go_num, by rw [e1.out]; exact HT.out, HG.out⟩
          case measure => (simp [intOf]; try omega)
        · have t0 : (cn == 0) = true := by rw [hcn, met_zero hmem']; rfl
          have HNM := Lib.hid hmem'
          have q2 : wrap64 (cn + 1) = cn + 1 := by rw [hcn, met_zero hmem']; exact IntWalk.wrap64_in _ (by omega)
          obtain ⟨br, hbr⟩ : ∃ br, br = r a t := ⟨_, rfl⟩
          have c2 := Lib.hid (HQ.out a HA.out t hmem.out wr HW.out.below)
          rw [← hbr] at c2
          have HBR := Lib.hid hbr
          clear hcn hmem' hbr
          cases br
          · have e1 := Lib.hid (show Gr.sofar T r f a M (j + 1) = M' by rw [HNX.out]; unfold Gr.stp; rw [if_neg (fun h => by have := HBR.out; rw [h.2] at this; cases this)])
            go_wp2_with (first
              | (at_lookup; refine counts_lookup _ rfl _ _ rfl b M'.length (M'.map bs) HT.out (bs t) hsh.out rfl rfl cn HC.out ?_)
              | (go_at_fn g; refine (c2.out).mono ?_; rintro e w3 ⟨rfl, hb3⟩))
            go_roundw
            case rel => exact ⟨j + 1, by omega, by go_num, by rw [e1.out]; exact HT.out.kept hb3 hblt, HG.out.trans (grown_of_below hb3 _)⟩
            case measure => (simp [intOf]; try omega)
          · have e1 := Lib.hid (show Gr.sofar T r f a M (j + 1) = Gr.visit T r f (t :: M') t by rw [HNX.out]; unfold Gr.stp; rw [if_pos ⟨HNM.out, HBR.out.symm⟩])
            have ih2 := Lib.hid (fun W hk hm => ih.out t (t :: M') W (by
              have h1 := Gr.unmet_lt HNM.out hmem.out
              have h2 := Gr.unmet_le KP.out.sub T
              have h3 := HF.out
              omega) hmem.out (List.nodup_cons.2 ⟨HNM.out, KP.out.nd HN.out⟩) (fun x hx => by
                rcases List.mem_cons.1 hx with rfl | q
                · exact hmem.out
                · exact KP.out.inn HI.out x q) hk hm)
            go_wp2_with (first
              | (at_mapUpdate; refine counts_update _ rfl _ _ _ rfl b M'.length (M'.map bs) (Mt.kept HT.out hb3 hblt) (bs t) hsh.out hkl.out hjl.out rfl rfl cn HC.out rfl ?_; intro w4 hco4 hgrow4; have HCO := Lib.hid (Mt.put hco4); have HG4 := Lib.hid ((grown_of_below hb3 (some b)).trans hgrow4); clear hco4 hgrow4)
              | (at_lookup; refine counts_lookup _ rfl _ _ rfl b M'.length (M'.map bs) (Mt.kept HT.out hb3 hblt) (bs t) hsh.out rfl rfl cn HC.out ?_)
              | (at_lookup; refine counts_lookup _ rfl _ _ rfl b M'.length (M'.map bs) HT.out (bs t) hsh.out rfl rfl cn HC.out ?_)
              | (go_at_fn g; refine (c2.out).mono ?_; rintro e w3 ⟨rfl, hb3⟩; have k0 := (hb3.cell (p := ⟨p, 0, none⟩) hplt).trans f0; have k1 := (hb3.cell (p := ⟨p, 1, none⟩) hplt).trans f1; have k2 := (hb3.cell (p := ⟨p, 2, none⟩) hplt).trans f2)
              | (go_at_call 269; refine (ih2.out _ (HW.out.keep HG4.out) HCO.out).mono ?_; rintro e w5 ⟨rfl, hm5, hg5⟩))
            go_roundw
            case rel => exact ⟨j + 1, by omega, by go_num, by rw [e1.out]; exact hm5, (HG.out.trans HG4.out).trans hg5⟩
            case measure => (simp [intOf]; try omega)
      · have e1 := Lib.hid (Gr.sofar_end (r := r) (f := f) (a := a) (m := M) hlt)
        go_wp2_with fail
        go_end0
        exact ⟨rfl, by rw [← e1.out]; exact HT.out, HG.out⟩
end

end Go.Proofs.YtogckcjcebckgaaGreat
end

section
/- Who is come to from one (chapter E): graph.reach, of, Needs, Users. -/
namespace Go.Proofs.YtogckcjcebckgaaGreat
open Go.RowKit Go.Maps Go.WideMaps Go.Sort
open Gs (Tx)

/-- of those that are met, of the first so many -/
def metT (T : List Tx) (V : List Tx) (j : Nat) : List Tx := (T.take j).filter (fun x => decide (x ∈ V))
theorem metT_in {T V : List Tx} {j : Nat} (h : j < T.length) (hm : T[j] ∈ V) : metT T V (j + 1) = metT T V j ++ [T[j]] := by
  unfold metT; rw [List.take_succ_eq_append_getElem h, List.filter_append]; simp [hm]
theorem metT_out {T V : List Tx} {j : Nat} (h : j < T.length) (hm : T[j] ∉ V) : metT T V (j + 1) = metT T V j := by
  unfold metT; rw [List.take_succ_eq_append_getElem h, List.filter_append]; simp [hm]
theorem metT_end {T V : List Tx} {j : Nat} (h : ¬ j < T.length) : metT T V j = T.filter (fun x => decide (x ∈ V)) := by
  unfold metT; rw [List.take_of_length_le (by omega)]
theorem metT_le (T V : List Tx) (j : Nat) : (metT T V j).length ≤ T.length := by
  unfold metT
  have h1 := List.length_filter_le (fun x => decide (x ∈ V)) (T.take j)
  have h2 : (T.take j).length ≤ T.length := by rw [List.length_take]; omega
  omega

theorem name_small {l : List Plc} (h : ∀ x ∈ l, modErr x.m = 0) : ∀ t ∈ Gs.msort (txs l), (bs t).size ≤ huge := fun t ht => by
  rw [Gs.msort_mem] at ht
  obtain ⟨x, hx, rfl⟩ := List.mem_map.1 ht
  rw [bs_tx]
  have := isName_size (modErr_facts (h x hx)).1
  unfold huge; omega

theorem wk_begin {w w2 : World} {T : List Tx} {tA : Option Addr} {tC g : Nat} {lb : Array Value} (t : TypeId) (hb : Below w.heap.size w w2) (hr : TxRow w2 tA T) (h0 : 0 < T.length) :
    Wk w T tA tC g lb (w2.heap.size + 1) w2.heap.size ((w2.alloc (.map #[] 0)).alloc (.cells #[.slice tA T.length tC, .map (some w2.heap.size), .func (.func g) #[] lb] t)) ∧
    Mt ((w2.alloc (.map #[] 0)).alloc (.cells #[.slice tA T.length tC, .map (some w2.heap.size), .func (.func g) #[] lb] t)) w2.heap.size [] := by
  obtain ⟨w0, hw0⟩ : ∃ w0, w0 = w2.alloc (.map #[] 0) := ⟨_, rfl⟩
  have hz : w0.heap.size = w2.heap.size + 1 := by rw [hw0]; simp
  have hb0 : Below w2.heap.size w2 w0 := hw0 ▸ (Below.refl _ _).alloc (Nat.le_refl _) _
  have hm0 : Mt w0 w2.heap.size [] := by rw [hw0]; exact Counts.made _
  rw [← hw0, ← hz]
  obtain ⟨w3, hw3⟩ : ∃ w3, w3 = w0.alloc (.cells #[.slice tA T.length tC, .map (some w2.heap.size), .func (.func g) #[] lb] t) := ⟨_, rfl⟩
  obtain ⟨f0, f1, f2, hz3, hb3⟩ := box3 hw3
  rw [← hw3]
  refine ⟨⟨hb.trans ((hb0.trans (hb3.mono (by omega))).mono hb.size), f0, f1, f2, (hr.below hb0).below hb3, by omega, hb.size, fun ad e => ?_, by omega⟩, ?_⟩
  · subst e
    obtain ⟨ad', e', hlt, _⟩ := hr.2 (by simpa using h0)
    cases e'; omega
  · exact Mt.kept hm0 hb3 (by omega)

set_option maxHeartbeats 4000000 in
set_option maxRecDepth 100000 in
theorem reach_any (A : Option Addr) (c : Nat) (l : List Plc) (nm : ByteArray) (g : Nat) (lb : Array Value) (r : Tx → Tx → Bool) (w : World) (eg : ∀ args w, (callFunc g args).run Tryz.prog w = .ok (.enter g args) w) (h : PlsOk w A l) (hg : grErr l = 0) (hn : tx nm ∈ txs l)
    (hq : ∀ x ∈ txs l, ∀ y ∈ txs l, ∀ W, Below w.heap.size w W → Calls Tryz.prog g (#[.string (bs x), .string (bs y)] ++ lb) W fun e w' => e = .returned (.bool (r x y)) ∧ Below W.heap.size W w') :
    Calls Tryz.prog 245 #[.slice A l.length c, .string nm, .func (.func g) #[] lb] w fun e w' => (∃ v, e = .returned v ∧ TR w' w.heap.size v (reachT l r (tx nm))) ∧ Below w.heap.size w w' := by
  obtain ⟨h8, hall, _⟩ := grErr_ok hg
  obtain ⟨T, hT⟩ : ∃ T, T = Gs.msort (txs l) := ⟨_, rfl⟩
  have hTl : T.length = l.length := by rw [hT, msort_length, txs_length]
  obtain ⟨V, hV⟩ : ∃ V, V = Gr.visit T r (l.length + 1) [] (tx nm) := ⟨_, rfl⟩
  have HR := Lib.hid (show reachT l r (tx nm) = T.filter (fun x => decide (x ∈ V)) by unfold reachT; rw [hV, hT])
  have c1 := Lib.hid (names_any A c l w h.row h8)
  have hmem : ∀ x, x ∈ T → x ∈ txs l := fun x hx => by rw [hT, Gs.msort_mem] at hx; exact hx
  have cW := Lib.hid (fun tA tC p b W hk hm => walk_any w T tA tC g lb p b r eg (by omega) (hT ▸ name_small hall) (fun x hx y hy W hb => hq x (hmem x hx) y (hmem y hy) W hb)
    (l.length + 1) (tx nm) [] W (by have : Gr.unmet T [] ≤ T.length := List.length_filter_le _ _; omega) (by rw [hT, Gs.msort_mem]; exact hn) List.nodup_nil (fun x hx => by cases hx) hk hm)
  rw [← hT] at c1
  rw [← hV] at cW
  simp only [bs_tx] at cW
  have HS := Lib.hid (hT ▸ name_small hall)
  have HT8 := Lib.hid (show T.length ≤ 8 by omega)
  have HT0 := Lib.hid (show 0 < T.length from List.length_pos_of_mem (show tx nm ∈ T by rw [hT, Gs.msort_mem]; exact hn))
  have hmm := @run_makeMap Tryz.prog
  clear h hg hn hq hall hT hmem hV hTl h8
  go_enter Tryz.func245, Tryz.ntmps245
  go_wp2_with (first
    | (go_at_call 164; refine (c1.out).mono ?_; rintro e w2 ⟨⟨v, rfl, ht2⟩, hb2⟩
       obtain ⟨tA, tC, rfl, hr2⟩ := ht2.form
       have HB2 := Lib.hid hb2
       have HK3 := Lib.hid (wk_begin (tC := tC) (g := g) (lb := lb) 297 hb2 hr2 HT0.out)
       clear ht2 hr2 hb2)
    | (go_at_call 269; refine (cW.out _ _ _ _ _ HK3.out.1 HK3.out.2).mono ?_; rintro e w4 ⟨rfl, hm4, hg4⟩
       have HM4 := Lib.hid hm4
       have HK4 := Lib.hid (HK3.out.1.keep hg4)
       have a0 := HK4.out.f0
       clear hm4 hg4))
  clear a0
  go_loopw [8, 25] (fun v i wr => ∃ j : Nat, j ≤ T.length ∧ i = .int .i64 j ∧ TR wr w4.heap.size v (metT T V j) ∧ Below w4.heap.size w4 wr) (fun _ i _ => T.length - (intOf i).toNat)
  case atStart => exact ⟨0, by omega, rfl, TR.nil _ _, Below.refl _ _⟩
  case round =>
    obtain ⟨j, hj, rfl, ht, hb⟩ := hrel
    have HT := Lib.hid ht
    have HB := Lib.hid hb
    have hwz := hb.size
    have hplt := HK4.out.plt
    have hblt := HM4.out.lt
    have hT8 := HT8.out
    clear ht
    by_cases hlt : j < T.length
    · have hlt' : (j : Int) < T.length := by omega
      obtain ⟨ad, hA, hab, h0⟩ := tx_at HK4.out.row hb j hlt
      subst hA
      have f1 := (hb.cell (p := ⟨w2.heap.size + 1, 1, none⟩) hplt).trans HK4.out.f1
      have HMR := Lib.hid (HM4.out.kept hb hblt)
      have hsh := Lib.hid (HS.out T[j] (List.getElem_mem _))
      have HML := Lib.hid (show (metT T V j).length ≤ 8 by have := metT_le T V j; have := HT8.out; omega)
      have HI := Lib.hid (metT_in (V := V) hlt)
      have HO := Lib.hid (metT_out (V := V) hlt)
      obtain ⟨t, ht⟩ : ∃ t, t = T[j]'hlt := ⟨_, rfl⟩
      rw [← ht] at h0 hsh HI HO
      clear ht hb
      obtain ⟨cn, hcn⟩ : ∃ cn, cn = cnt (V.map bs) (bs t) := ⟨_, rfl⟩
      have HC := Lib.hid hcn
      by_cases hm : t ∈ V
      · have t0 : (0 : Int) < cn := by rw [hcn]; exact met_cnt.2 hm
        have e1 := Lib.hid (HI.out hm)
        have HZX := Lib.hid hwz
        clear hcn hm
        go_wp2_with (first
          | (at_lookup; refine counts_lookup _ rfl _ _ rfl w2.heap.size V.length (V.map bs) HMR.out (bs t) hsh.out rfl rfl cn HC.out ?_)
          | (at_builtin; refine append_tr wr rfl _ _ rfl w4.heap.size _ (metT T V j) (bs t) rfl rfl (by exact HT.out) (by have := HML.out; omega) HZX.out ?_; intro v' w6 ht6 hb6))
        go_roundw
        case rel => exact ⟨j + 1, by omega, by go_num, by rw [e1.out]; rwa [tx_bs] at ht6, HB.out.trans hb6⟩
        case measure => (simp [intOf]; try omega)
      · have t0 : decide ((0 : Int) < cn) = false := by rw [hcn, met_zero hm]; rfl
        have e1 := Lib.hid (HO.out hm)
        clear hcn hm
        go_wp2_with (at_lookup; refine counts_lookup _ rfl _ _ rfl w2.heap.size V.length (V.map bs) HMR.out (bs t) hsh.out rfl rfl cn HC.out ?_)
        go_roundw
        case rel => exact ⟨j + 1, by omega, by go_num, by rw [e1.out]; exact HT.out, HB.out⟩
        case measure => (simp [intOf]; try omega)
    · have e1 := Lib.hid (metT_end (V := V) hlt)
      have hz4 := Lib.hid (show w.heap.size ≤ w4.heap.size from HK4.out.below.size)
      clear hb
      go_wp2_with fail
      go_ret
      refine ⟨⟨_, rfl, ?_⟩, HK4.out.below.trans (HB.out.mono hz4.out)⟩
      rw [HR.out, ← e1.out]
      exact HT.out.more hz4.out


set_option maxHeartbeats 2000000 in
set_option maxRecDepth 100000 in
theorem of_any (A : Option Addr) (c : Nat) (l : List Plc) (nm : ByteArray) (g : Nat) (lb : Array Value) (r : Tx → Tx → Bool) (w : World) (eg : ∀ args w, (callFunc g args).run Tryz.prog w = .ok (.enter g args) w) (h : PlsOk w A l)
    (hq : grErr l = 0 → ∀ x ∈ txs l, ∀ y ∈ txs l, ∀ W, Below w.heap.size w W → Calls Tryz.prog g (#[.string (bs x), .string (bs y)] ++ lb) W fun e w' => e = .returned (.bool (r x y)) ∧ Below W.heap.size W w') :
    Calls Tryz.prog 199 #[.slice A l.length c, .string nm, .func (.func g) #[] lb] w fun e w' => (∃ v, e = .returned (.tuple #[v, .int .i64 (ofErr l nm)]) ∧ TR w' w.heap.size v (if ofErr l nm ≠ 0 then [] else reachT l r (tx nm))) ∧ Below w.heap.size w w' := by
  have c1 := Lib.hid (ready_any A c l w h)
  have c2 := Lib.hid (fun W (hb : Below w.heap.size w W) => Place_any A c l nm W (h.row.below hb) h.len)
  have c3 := Lib.hid (fun (e : ofErr l nm = 0) W (hb : Below w.heap.size w W) => reach_any A c l nm g lb r W eg (h.below hb) (ofErr_ok e).1 (by
    obtain ⟨_, p, hp, _, e3⟩ := ofErr_ok e
    rw [e3, nmN_at hp]
    exact List.mem_map.2 ⟨_, List.getElem_mem hp, rfl⟩) (fun x hx y hy W' hb' => hq (ofErr_ok e).1 x hx y hy W' (hb.trans (hb'.mono hb.size))))
  obtain ⟨E, hE⟩ : ∃ E, E = ofErr l nm := ⟨_, rfl⟩
  rw [← hE] at c3 ⊢
  unfold ofErr at hE
  clear h hq
  generalize reachT l r (tx nm) = R at *
  generalize grErr l = ge at *
  obtain ⟨pi, hpi⟩ : ∃ pi, pi = idxOf (named nm) l := ⟨_, rfl⟩
  rw [← hpi] at hE c2
  clear hpi
  by_cases t1 : ge = 0
  · obtain rfl := t1
    rw [if_neg (by omega)] at hE
    by_cases t2 : pi < 0
    · rw [if_pos t2] at hE
      subst hE
      clear c3
      go_enter Tryz.func199, Tryz.ntmps199
      go_wp2_with (first | (go_at_call 146; (with_reducible refine (c1.out).mono ?_); rintro e w1 ⟨rfl, hb1⟩) | (go_at_call 134; (with_reducible refine (c2.out _ hb1).mono ?_); rintro e w2 ⟨rfl, hb2⟩))
      go_ret2
      exact ⟨⟨_, rfl, TR.nil _ _⟩, hb1.trans (hb2.mono hb1.size)⟩
    · rw [if_neg t2] at hE
      have t2' : decide (pi < 0) = false := by simp; omega
      subst hE
      have c4 := Lib.hid (c3.out rfl)
      clear t2 c3
      go_enter Tryz.func199, Tryz.ntmps199
      go_wp2_with (first
        | (go_at_call 146; refine (c1.out).mono ?_; rintro e w1 ⟨rfl, hb1⟩)
        | (go_at_call 134; refine (c2.out _ hb1).mono ?_; rintro e w2 ⟨rfl, hb2⟩; have HB2 := Lib.hid (hb1.trans (hb2.mono hb1.size)))
        | (go_at_call 245; refine (c4.out _ HB2.out).mono ?_; rintro e w3 ⟨⟨v, rfl, ht3⟩, hb3⟩; have HT := Lib.hid ht3; have HB := Lib.hid hb3; clear ht3 hb3))
      go_ret2
      exact ⟨⟨_, rfl, HT.out.more HB2.out.size⟩, HB2.out.trans (HB.out.mono HB2.out.size)⟩
  · rw [if_pos t1] at hE
    have t1' : (ge != 0) = true := by simp [t1]
    have t1'' : (ge == 0) = false := by simp [t1]
    have H1 := Lib.hid t1
    subst hE
    clear t1 c2 c3
    go_enter Tryz.func199, Tryz.ntmps199
    go_wp2_with (first | (go_at_call 146; (with_reducible refine (c1.out).mono ?_); rintro e w1 ⟨rfl, hb1⟩))
    go_ret2
    exact ⟨⟨_, rfl, by first | exact TR.nil _ _ | (rw [if_pos H1.out]; exact TR.nil _ _)⟩, hb1⟩

set_option maxHeartbeats 1000000 in
set_option maxRecDepth 100000 in
theorem needs1_any (A : Option Addr) (c : Nat) (l : List Plc) (B : Nat) (x y : Tx) (w : World) (h : PlsOk w A l) (hc : w.cell? ⟨B, 0, none⟩ = some (.slice A l.length c)) (hx : x ∈ txs l) :
    Calls Tryz.prog 200 (#[.string (bs x), .string (bs y)] ++ #[.pointer (some ⟨B, 0, none⟩)]) w fun e w' => e = .returned (.bool (dirT l x y)) ∧ Below w.heap.size w w' := by
  have c1 := Lib.hid (direct_any A c l (bs x) (bs y) w h (by rw [tx_bs]; exact hx))
  simp only [tx_bs] at c1
  generalize dirT l x y = d at *
  clear h hx
  go_enter Tryz.func200, Tryz.ntmps200
  go_wp2_with (first | (go_at_call 169; (with_reducible refine (c1.out).mono ?_); rintro e w1 ⟨rfl, hb1⟩))
  go_ret
  exact ⟨rfl, hb1⟩
set_option maxHeartbeats 1000000 in
set_option maxRecDepth 100000 in
theorem users1_any (A : Option Addr) (c : Nat) (l : List Plc) (B : Nat) (x y : Tx) (w : World) (h : PlsOk w A l) (hc : w.cell? ⟨B, 0, none⟩ = some (.slice A l.length c)) (hy : y ∈ txs l) :
    Calls Tryz.prog 201 (#[.string (bs x), .string (bs y)] ++ #[.pointer (some ⟨B, 0, none⟩)]) w fun e w' => e = .returned (.bool (dirT l y x)) ∧ Below w.heap.size w w' := by
  have c1 := Lib.hid (direct_any A c l (bs y) (bs x) w h (by rw [tx_bs]; exact hy))
  simp only [tx_bs] at c1
  generalize dirT l y x = d at *
  clear h hy
  go_enter Tryz.func201, Tryz.ntmps201
  go_wp2_with (first | (go_at_call 169; (with_reducible refine (c1.out).mono ?_); rintro e w1 ⟨rfl, hb1⟩))
  go_ret
  exact ⟨rfl, hb1⟩

def TxRes (w' : World) (base : Nat) (e : Ending) (ss : List Tx) (er : Int) : Prop := ∃ v, e = .returned (.tuple #[v, .int .i64 er]) ∧ TR w' base v ss
set_option maxHeartbeats 1000000 in
set_option maxRecDepth 100000 in
theorem Needs_any (A : Option Addr) (c : Nat) (l : List Plc) (nm : ByteArray) (w : World) (h : PlsOk w A l) :
    Calls Tryz.prog 132 #[.slice A l.length c, .string nm] w fun e w' => TxRes w' w.heap.size e (needsT l nm) (ofErr l nm) ∧ Below w.heap.size w w' := by
  obtain ⟨w0, hw0⟩ : ∃ w0, w0 = w.alloc (.cells #[.slice A l.length c] 37) := ⟨_, rfl⟩
  obtain ⟨hc0, hz0, hb0⟩ := box1 hw0
  have c1 := Lib.hid (of_any A c l nm 200 #[.pointer (some ⟨w.heap.size, 0, none⟩)] (dirT l) w0 (enters_of Tryz.func200 (by kernel_rfl) rfl) (h.below hb0)
    (fun _ x hx y _ W hb => needs1_any A c l w.heap.size x y W ((h.below hb0).below hb) ((hb.cell (by simp; omega)).trans hc0) hx))
  have H0 := Lib.hid hb0
  have e1 := Lib.hid (show (if ofErr l nm ≠ 0 then [] else reachT l (dirT l) (tx nm)) = needsT l nm from rfl)
  have hw0' := hw0.symm
  rw [e1.out] at c1
  generalize needsT l nm = N at *
  generalize ofErr l nm = E at *
  clear hw0 hb0 h hz0
  go_enter Tryz.func132, Tryz.ntmps132
  go_wp2_with (go_at_call 199; refine (c1.out).mono ?_; rintro e w1 ⟨⟨v, rfl, ht1⟩, hb1⟩; have HT := Lib.hid ht1; have HB := Lib.hid hb1; clear ht1 hb1)
  go_ret2
  exact ⟨⟨_, rfl, HT.out.more H0.out.size⟩, H0.out.trans (HB.out.mono H0.out.size)⟩
set_option maxHeartbeats 1000000 in
set_option maxRecDepth 100000 in
theorem Users_any (A : Option Addr) (c : Nat) (l : List Plc) (nm : ByteArray) (w : World) (h : PlsOk w A l) :
    Calls Tryz.prog 133 #[.slice A l.length c, .string nm] w fun e w' => TxRes w' w.heap.size e (usersT l nm) (ofErr l nm) ∧ Below w.heap.size w w' := by
  obtain ⟨w0, hw0⟩ : ∃ w0, w0 = w.alloc (.cells #[.slice A l.length c] 37) := ⟨_, rfl⟩
  obtain ⟨hc0, hz0, hb0⟩ := box1 hw0
  have c1 := Lib.hid (of_any A c l nm 201 #[.pointer (some ⟨w.heap.size, 0, none⟩)] (fun a b => dirT l b a) w0 (enters_of Tryz.func201 (by kernel_rfl) rfl) (h.below hb0)
    (fun _ x _ y hy W hb => users1_any A c l w.heap.size x y W ((h.below hb0).below hb) ((hb.cell (by simp; omega)).trans hc0) hy))
  have H0 := Lib.hid hb0
  have e1 := Lib.hid (show (if ofErr l nm ≠ 0 then [] else reachT l (fun a b => dirT l b a) (tx nm)) = usersT l nm from rfl)
  have hw0' := hw0.symm
  rw [e1.out] at c1
  generalize usersT l nm = N at *
  generalize ofErr l nm = E at *
  clear hw0 hb0 h hz0
  go_enter Tryz.func133, Tryz.ntmps133
  go_wp2_with (go_at_call 199; refine (c1.out).mono ?_; rintro e w1 ⟨⟨v, rfl, ht1⟩, hb1⟩; have HT := Lib.hid ht1; have HB := Lib.hid hb1; clear ht1 hb1)
  go_ret2
  exact ⟨⟨_, rfl, HT.out.more H0.out.size⟩, H0.out.trans (HB.out.mono H0.out.size)⟩

end Go.Proofs.YtogckcjcebckgaaGreat
end

section
/- The order of modules (chapter E): graph.Sorted, Order. -/
namespace Go.Proofs.YtogckcjcebckgaaGreat
open Go.RowKit Go.Lib Go.Sort
open Gs (Tx)

theorem TR.ne {w : World} {base k : Nat} {v : Value} {ss : List Tx} (h : TR w base v ss) (hk : k < base) : v.ownBlock ≠ some k := fun e => by have := (h.lt k e).1; omega
theorem heap_put {w : World} {g q : Nat} {cur : Array Value} {e : TypeId} {fr : Nat × Nat} (d : Array (List UInt8)) (hb : w.heap[g]? = some (.cells cur e fr)) :
    (putRow encStr (Sort.ahead w q) g 0 d).heap[g]? = some (.cells (putCells encStr 0 d cur) e fr) := by
  simp [putRow, mapBlock, Sort.ahead, Array.getElem?_modify, hb, onCells]
theorem eraseIdx_split : ∀ (l : List Tx) (i : Nat), l.eraseIdx i = l.take i ++ l.drop (i + 1)
  | [], i => by simp
  | x :: l, 0 => by simp
  | x :: l, i + 1 => by simp [eraseIdx_split l i]
theorem Delete_tr {w : World} {base c i : Nat} {A : Option Addr} {ss : List Tx} (h : TR w base (.slice A ss.length c) ss) (hi : i < ss.length) :
    Calls Tryz.prog 170 #[.slice A ss.length c, .int .i64 i, .int .i64 (i + 1)] w fun e w' => e = .returned (.slice A (ss.eraseIdx i).length c) ∧ TR w' base (.slice A (ss.eraseIdx i).length c) (ss.eraseIdx i) ∧ w.grownBy w' (Value.slice A ss.length c).ownBlock := by
  have ho := h.own
  have hv : Value.slice A ss.length c ≠ .slice none 0 0 := by intro e; injection e with _ e2 _; omega
  obtain ⟨g, cap, hv', hbg, hgl, hncap, hcm, hlen, hH⟩ := Lib.holds_of_ownsRow ho hv
  injection hv' with hA _ hcc
  subst hA hcc
  unfold maxLen at hcm
  have hn : (ss.eraseIdx i).length = ss.length - 1 := by rw [List.length_eraseIdx, if_pos hi]
  refine (Tryz.slices_Delete_string g 0 c i (i + 1) ss w hH hncap (by omega) (by omega) (by omega)).mono ?_
  rintro e w' ⟨rfl, q, rfl⟩
  refine ⟨by rw [hn, show i + 1 - i = 1 by omega], ?_, grownBy_put _⟩
  rcases ho.2 with ⟨h0, _⟩ | ⟨g', cap', cur, hv', hbase, hb, h1, h2, h3, h4⟩
  · exact absurd h0 hv
  · injection hv' with hA' _ hc'
    injection hA' with hA'
    injection hA' with hg' _ _
    subst hg' hc'
    refine TR.of_own (n := (ss.eraseIdx i).length) ⟨by simp, .inr ⟨g, c, _, rfl, hbase, heap_put _ hb, by omega, h2, by simp [putCells, h3], ?_⟩⟩
    have hs : ss.take i ++ ss.drop (i + 1) ++ List.replicate (i + 1 - i) [] = ss.eraseIdx i ++ [[]] := by rw [eraseIdx_split, show i + 1 - i = 1 by omega]; rfl
    rw [hs, Nat.mul_one]
    have ht := take_putCells cur (ss.eraseIdx i ++ [[]]) (by simp; omega)
    have h5 := congrArg (List.take (ss.eraseIdx i).length) ht
    rw [List.take_take, Nat.min_eq_left (by simp)] at h5
    rw [h5, List.map_append]
    rw [List.take_append_of_le_length (by simp), List.take_of_length_le (by simp)]

/-- is it asked by none of the left? -/
theorem free_any (r : Tx → Tx → Bool) (left : List Tx) (x : Tx) : Gs.free r left x = !(left.any (r x)) := by
  unfold Gs.free
  induction left with
  | nil => rfl
  | cons y l ih => rw [List.all_cons, List.any_cons, ih]; cases r x y <;> rfl
theorem idxOf_find {α : Type} (q : α → Bool) : ∀ (l : List α), idxOf q l = if l.findIdx q < l.length then (l.findIdx q : Int) else -1
  | [] => rfl
  | x :: l => by
    unfold idxOf
    rw [List.findIdx_cons]
    by_cases h : q x = true
    · simp [h]
    · have h' : q x = false := by simpa using h
      have ih := idxOf_find q l
      rw [if_neg h, h']
      simp only [cond_false, List.length_cons]
      by_cases k : l.findIdx q < l.length
      · rw [if_pos k] at ih
        rw [ih, if_neg (by omega), if_pos (by omega)]; rfl
      · rw [if_neg k] at ih
        rw [ih, if_pos (by omega), if_neg (by omega)]

set_option maxHeartbeats 1000000 in
set_option maxRecDepth 100000 in
theorem sorted2_any (A : Option Addr) (c : Nat) (l : List Plc) (L X : Nat) (x y : Tx) (w : World) (h : PlsOk w A l) (hc : w.cell? ⟨L, 0, none⟩ = some (.slice A l.length c)) (hd : w.cell? ⟨X, 0, none⟩ = some (.string (bs x))) (hx : x ∈ txs l) :
    Calls Tryz.prog 168 (#[.string (bs y)] ++ #[.pointer (some ⟨L, 0, none⟩), .pointer (some ⟨X, 0, none⟩)]) w fun e w' => e = .returned (.bool (dirT l x y)) ∧ Below w.heap.size w w' := by
  have c1 := Lib.hid (direct_any A c l (bs x) (bs y) w h (by rw [tx_bs]; exact hx))
  simp only [tx_bs] at c1
  generalize dirT l x y = d at *
  clear h hx
  go_enter Tryz.func168, Tryz.ntmps168
  go_wp2_with (first | (go_at_call 169; (with_reducible refine (c1.out).mono ?_); rintro e w1 ⟨rfl, hb1⟩))
  go_ret
  exact ⟨rfl, hb1⟩

set_option maxHeartbeats 1000000 in
set_option maxRecDepth 100000 in
theorem sorted1_any (A : Option Addr) (c : Nat) (l : List Plc) (B L : Nat) (lA : Option Addr) (lC : Nat) (left : List Tx) (x : Tx) (w : World) (h : PlsOk w A l) (hc : w.cell? ⟨L, 0, none⟩ = some (.slice A l.length c))
    (hd : w.cell? ⟨B, 0, none⟩ = some (.slice lA left.length lC)) (hr : TxRow w lA left) (hl : left.length ≤ big) (hx : x ∈ txs l) (hL : L < w.heap.size) :
    Calls Tryz.prog 166 (#[.string (bs x)] ++ #[.pointer (some ⟨B, 0, none⟩), .pointer (some ⟨L, 0, none⟩)]) w fun e w' => e = .returned (.bool (Gs.free (dirT l) left x)) ∧ Below w.heap.size w w' := by
  obtain ⟨w0, hw0⟩ : ∃ w0, w0 = w.alloc (.cells #[.string (bs x)] 9) := ⟨_, rfl⟩
  obtain ⟨hc0, hz0, hb0⟩ := box1 hw0
  have c1 := Lib.hid (ContTx_any lA lC left 168 #[.pointer (some ⟨L, 0, none⟩), .pointer (some ⟨w.heap.size, 0, none⟩)] (dirT l x) w0 (enters_of Tryz.func168 (by kernel_rfl) rfl) (hr.below hb0) hl
    (fun y _ W hb => sorted2_any A c l L w.heap.size x y W ((h.below hb0).below hb) ((hb.cell (by simp; omega)).trans ((hb0.cell hL).trans hc)) ((hb.cell (by simp; omega)).trans hc0) hx))
  have hB : B < w.heap.size := World.block_lt_of_cell? _ _ hd
  have d0 := (hb0.cell (p := ⟨B, 0, none⟩) hB).trans hd
  have H0 := Lib.hid hb0
  have hw0' := hw0.symm
  rw [free_any]
  generalize left.any (dirT l x) = b at *
  clear hw0 hb0 h hr hc hd hx hz0 hl
  go_enter Tryz.func166, Tryz.ntmps166
  go_wp2_with (go_at_call 167; refine (c1.out).mono ?_; rintro e w2 ⟨rfl, hb2⟩)
  go_ret
  exact ⟨rfl, H0.out.trans (hb2.mono H0.out.size)⟩

def SortRes (w' : World) (base : Nat) (e : Ending) (o : Option (List Tx)) : Prop := ∃ v, e = .returned (.tuple #[v, .bool o.isSome]) ∧ TR w' base v (o.getD [])
theorem TR.at_lt {w w' : World} {base B : Nat} {v : Value} {ss : List Tx} (h : TR w base v ss) (hb : Below B w w') (hlt : ∀ g, v.ownBlock = some g → g < B) : TR w' base v ss := by
  refine ⟨h.1, ?_⟩
  rcases h.2 with h0 | ⟨g, cap, cur, e1, e2, e3, e4⟩
  · exact .inl h0
  · refine .inr ⟨g, cap, cur, e1, e2, ?_, e4⟩
    rw [hb.block g (hlt g (by rw [e1]; rfl))]; exact e3
/-- the loop of Sorted: what is left, what is out -/
structure SLoop (l : List Plc) (base B base2 : Nat) (w : World) (v : Value) (left out : List Tx) (wr : World) : Prop where
  ord : Gs.order (dirT l) left.length left out = sortedT l
  out_ : TR wr base2 v out
  box : ∃ u, Boxed wr B 27 u ∧ TR wr base u left ∧ (∀ g, u.ownBlock = some g → g < B)
  mem : ∀ x ∈ left, x ∈ txs l
  len : out.length + left.length ≤ 8
  bel : Below base w wr

theorem order_zero (r : Tx → Tx → Bool) (left out : List Tx) (h : left = []) : Gs.order r left.length left out = some out := by subst h; rfl
theorem order_pos (r : Tx → Tx → Bool) (left out : List Tx) (h : left ≠ []) : Gs.order r left.length left out = if left.findIdx (Gs.free r left) < left.length then Gs.order r (left.length - 1) (left.eraseIdx (left.findIdx (Gs.free r left))) (out ++ [left.getD (left.findIdx (Gs.free r left)) []]) else none := by
  obtain ⟨n, hn⟩ : ∃ n, left.length = n + 1 := by
    cases left with
    | nil => exact absurd rfl h
    | cons x l => exact ⟨l.length, rfl⟩
  rw [hn, Gs.order, hn]; rfl

set_option maxHeartbeats 4000000 in
set_option maxRecDepth 100000 in
theorem Sorted_any (A : Option Addr) (c : Nat) (l : List Plc) (w : World) (h : PlsOk w A l) (h8 : l.length ≤ 8) :
    Calls Tryz.prog 96 #[.slice A l.length c] w fun e w' => SortRes w' w.heap.size e (sortedT l) ∧ Below w.heap.size w w' := by
  obtain ⟨w0, hw0⟩ : ∃ w0, w0 = w.alloc (.cells #[.slice A l.length c] 37) := ⟨_, rfl⟩
  obtain ⟨hc0, hz0, hb0⟩ := box1 hw0
  have c1 := Lib.hid (names_any A c l w0 (h.row.below hb0) h8)
  have HP := Lib.hid h
  have H0 := Lib.hid hb0
  have HC0 := Lib.hid hc0
  have HZ0 := Lib.hid hz0
  have hTl := Lib.hid (show (Gs.msort (txs l)).length = l.length by rw [msort_length, txs_length])
  have hw0' := hw0.symm
  clear h hb0 hw0 hz0
  go_enter Tryz.func96, Tryz.ntmps96
  go_wp2_with (go_at_call 164; refine (c1.out).mono ?_; rintro e w1 ⟨⟨v, rfl, ht1⟩, hb1⟩; obtain ⟨lA, lC, rfl, _⟩ := ht1.form; have HT := Lib.hid ht1; have HB1 := Lib.hid hb1; clear ht1 hb1)
  have hS0 : SLoop l w0.heap.size w1.heap.size (w1.heap.size + 1) w0 (.slice none 0 0) (Gs.msort (txs l)) [] (w1.alloc (.cells #[.slice lA (Gs.msort (txs l)).length lC] 27)) :=
    ⟨by rw [hTl.out]; rfl, TR.nil _ _, ⟨_, Boxed.new _ _ _, HT.out.alloc _, fun g hg => (HT.out.lt g hg).2⟩, fun x hx => by rwa [Gs.msort_mem] at hx,
      by rw [hTl.out]; simpa using h8, HB1.out.alloc HB1.out.size _⟩
  have HS0 := Lib.hid hS0
  have HLB := Lib.hid (show w.heap.size < w1.heap.size by have h1 := HZ0.out; have h2 := HB1.out.size; omega)
  clear hS0
  go_loopg [5] (Gs.msort (txs l)).length (fun gf v wr => ∃ left out, left.length = gf ∧ SLoop l w0.heap.size w1.heap.size (w1.heap.size + 1) w0 v left out wr)
  case atStart => exact ⟨_, _, rfl, HS0.out⟩
  case round =>
    obtain ⟨left, out, hlen, hS⟩ := hrel
    have HS := Lib.hid hS
    have HB := Lib.hid hS.bel
    obtain ⟨u, hbox, htl, hlow⟩ := hS.box
    obtain ⟨uA, uC, rfl, hrow⟩ := htl.form
    have b0 := hbox.cell
    have b1 := hbox.frozen
    have HX := Lib.hid hbox
    have HTL := Lib.hid htl
    have HLOW := Lib.hid hlow
    have HROW := Lib.hid hrow
    have hz0 := HZ0.out
    have hcl := (HB.out.cell (p := ⟨w.heap.size, 0, none⟩) (by simp; omega)).trans HC0.out
    have hLw : w.heap.size < wr.heap.size := by have := HB.out.size; omega
    have HBW := Lib.hid (H0.out.trans (HB.out.mono H0.out.size))
    have HLN := Lib.hid hlen
    have hBw := hbox.lt
    clear hS htl hlow hrow hz0 hlen
    by_cases hne : left = []
    · subst hne
      have e1 := Lib.hid (HS.out.ord.symm.trans (order_zero _ _ out rfl))
      go_wp2_with fail
      go_ret2
      exact ⟨⟨_, by rw [e1.out]; rfl, by rw [e1.out]; exact HS.out.out_.more (by have := HLB.out; omega)⟩, HBW.out⟩
    · have e1 := Lib.hid (HS.out.ord.symm.trans (order_pos _ _ out hne))
      have hpos : (0 : Int) < left.length := by have := List.length_pos_iff.2 hne; omega
      have hll : left.length ≤ 8 := by have := HS.out.len; omega
      have c2 := Lib.hid (IdxTx_any uA uC left 166 #[.pointer (some ⟨w1.heap.size, 0, none⟩), .pointer (some ⟨w.heap.size, 0, none⟩)] (Gs.free (dirT l) left) wr (enters_of Tryz.func166 (by kernel_rfl) rfl) HROW.out (by unfold big; omega)
        (fun x hx W hb => sorted1_any A c l w1.heap.size w.heap.size uA uC left x W (HP.out.below (HBW.out.trans (hb.mono HBW.out.size))) ((hb.cell (by simp; omega)).trans hcl) ((hb.cell (by simp; omega)).trans b0) (HROW.out.below hb) (by unfold big; omega) (HS.out.mem x hx) (by have := hb.size; omega)))
      rw [idxOf_find] at c2
      obtain ⟨k, hk⟩ : ∃ k, k = left.findIdx (Gs.free (dirT l) left) := ⟨_, rfl⟩
      rw [← hk] at c2 e1
      clear hk hbox
      by_cases hkl : k < left.length
      · rw [if_pos hkl] at c2 e1
        have HKR := Lib.hid (fun W (hb : Below wr.heap.size wr W) => tx_at HROW.out hb k hkl)
        obtain ⟨ad, hA, _⟩ := tx_at HROW.out (Below.refl _ _) k hkl
        subst hA
        have eg : left.getD k [] = left[k] := by rw [List.getD_eq_getElem?_getD, List.getElem?_eq_getElem hkl]; rfl
        rw [eg] at e1
        obtain ⟨t, ht⟩ : ∃ t, t = left[k]'hkl := ⟨_, rfl⟩
        rw [← ht] at e1
        simp only [← ht] at HKR
        clear ht eg hne
        have HOL := Lib.hid (show out.length ≤ 1000000 by have := HS.out.len; omega)
        have hkl' : (k : Int) < left.length := by omega
        have HK := Lib.hid hkl
        go_wp2_with (first
          | (go_at_call 165; refine (c2.out).mono ?_; rintro e w3 ⟨rfl, hb3⟩
             have b30 := (hb3.cell (p := ⟨w1.heap.size, 0, none⟩) hBw).trans b0
             obtain ⟨_, eA, _, r3⟩ := HKR.out w3 hb3
             obtain rfl := Option.some.inj eA
             have HB3 := Lib.hid hb3
             have HO3 := Lib.hid (HS.out.out_.below hb3 (Nat.le_refl _))
             have HT3 := Lib.hid (HTL.out.below hb3 (Nat.le_refl _))
             have HX3 := Lib.hid (show Boxed w3 w1.heap.size _ _ from (hb3.block _ HX.out.lt).trans HX.out)
             have HZ3 := Lib.hid (show w1.heap.size + 1 ≤ w3.heap.size by have := HX3.out.lt; omega)
             clear hb3)
          | (at_builtin; refine append_tr w3 rfl _ _ rfl (w1.heap.size + 1) _ out (bs t) rfl rfl (by exact HO3.out) HOL.out HZ3.out ?_; intro v' w4 ht4 hb4
             have b40 := (hb4.cell (p := ⟨w1.heap.size, 0, none⟩) (by simp)).trans b30
             have HB4 := Lib.hid hb4
             have HO4 := Lib.hid ht4
             have HT4 := Lib.hid (HT3.out.at_lt hb4 (fun g hg => by have := HLOW.out g hg; omega))
             have HX4 := Lib.hid (show Boxed w4 w1.heap.size _ _ from (hb4.block _ (by omega)).trans HX3.out)
             clear hb4 ht4)
          | (go_at_call 170; refine (Delete_tr HT4.out HK.out).mono ?_; rintro e w5 ⟨rfl, ht5, hg5⟩
             have HX5 := Lib.hid (HX4.out.kept hg5 (fun q => by have := HLOW.out _ q.symm; omega))
             have b50 := HX5.out.cell
             have b51 := HX5.out.frozen
             have HT5 := Lib.hid ht5
             have HG5 := Lib.hid hg5
             clear ht5 hg5))
        have hE : (left.eraseIdx k).length = left.length - 1 := by rw [List.length_eraseIdx, if_pos HK.out]
        have HE := Lib.hid hE
        clear hE
        go_roundg (left.length - 1)
        case measure => have := HLN.out; omega
        case rel =>
          have hgl : ∀ g, (Value.slice (some ad) left.length uC).ownBlock = some g → g < w1.heap.size := HLOW.out
          have hs := grownBy_setCell' w5 w1.heap.size (.slice (some ad) (left.eraseIdx k).length uC)
          refine ⟨left.eraseIdx k, out ++ [t], HE.out, ?_, ?_, ⟨_, HX5.out.set _, HT5.out.kept hs (.inr (fun q => by have := hgl _ q; omega)), hgl⟩, fun x hx => HS.out.mem x (List.mem_of_mem_eraseIdx hx), ?_, ?_⟩
          · rw [HE.out]; exact e1.out.symm
          · have h4 := HO4.out
            rw [tx_bs] at h4
            exact (h4.kept HG5.out (.inr (fun q => by
              have h1 := hgl ad.block rfl
              exact h4.ne (k := ad.block) (by omega) q))).kept hs (.inr (fun q => by
                have h5 := h4.kept HG5.out (.inr (fun q => by
                  have h1 := hgl ad.block rfl
                  exact h4.ne (k := ad.block) (by omega) q))
                exact h5.ne (k := w1.heap.size) (by omega) q))
          · have := HS.out.len; have := HE.out; have := HK.out; rw [List.length_append]; simp; omega
          · have z1 := HB.out.size
            have z2 := HB3.out.size
            have z3 := HB4.out.size
            have hw1 : w0.heap.size ≤ w1.heap.size := HB1.out.size
            have q4 : Below w0.heap.size w0 w4 := (HB.out.trans (HB3.out.mono z1)).trans (HB4.out.mono (by omega))
            exact (q4.grown HG5.out q4.size (fun g hg => (HTL.out.lt g hg).1)).setCell (p := ⟨w1.heap.size, 0, none⟩) hw1 _
      · rw [if_neg hkl] at c2 e1
        clear hkl
        go_wp2_with (go_at_call 165; refine (c2.out).mono ?_; rintro e w3 ⟨rfl, hb3⟩)
        go_ret2
        exact ⟨⟨_, by rw [e1.out]; rfl, by rw [e1.out]; exact TR.nil _ _⟩, HBW.out.trans (hb3.mono HBW.out.size)⟩


set_option maxHeartbeats 2000000 in
set_option maxRecDepth 100000 in
theorem Order_any (A : Option Addr) (c : Nat) (l : List Plc) (w : World) (h : PlsOk w A l) :
    Calls Tryz.prog 68 #[.slice A l.length c] w fun e w' => TxRes w' w.heap.size e (orderT l) (orderErr l) ∧ Below w.heap.size w w' := by
  have c1 := Lib.hid (ready_any A c l w h)
  have c2 := Lib.hid (fun (e : grErr l = 0) W (hb : Below w.heap.size w W) => Sorted_any A c l W (h.below hb) (grErr_ok e).1)
  obtain ⟨E, hE⟩ : ∃ E, E = orderErr l := ⟨_, rfl⟩
  have hO : orderT l = if E ≠ 0 then [] else (sortedT l).getD [] := by rw [hE]; rfl
  rw [← hE]
  unfold orderErr at hE
  clear h
  obtain ⟨N, hN⟩ : ∃ N, N = orderT l := ⟨_, rfl⟩
  rw [← hN] at hO ⊢
  clear hN
  generalize sortedT l = so at *
  generalize grErr l = ge at *
  by_cases t1 : ge = 0
  · obtain rfl := t1
    rw [if_neg (by omega)] at hE
    have c3 := Lib.hid (c2.out rfl)
    clear c2
    cases so with
    | none =>
      rw [if_pos (by rfl)] at hE
      subst hE
      rw [if_pos (by omega)] at hO
      subst hO
      go_enter Tryz.func68, Tryz.ntmps68
      go_wp2_with (first
        | (go_at_call 146; refine (c1.out).mono ?_; rintro e w1 ⟨rfl, hb1⟩)
        | (go_at_call 96; refine (c3.out _ hb1).mono ?_; rintro e w2 ⟨⟨v, rfl, ht2⟩, hb2⟩; have HB := Lib.hid hb2; clear ht2 hb2))
      go_ret2
      exact ⟨⟨_, rfl, TR.nil _ _⟩, hb1.trans (HB.out.mono hb1.size)⟩
    | some out =>
      rw [if_neg (by simp)] at hE
      subst hE
      rw [if_neg (by omega), Option.getD_some] at hO
      subst hO
      go_enter Tryz.func68, Tryz.ntmps68
      go_wp2_with (first
        | (go_at_call 146; refine (c1.out).mono ?_; rintro e w1 ⟨rfl, hb1⟩)
        | (go_at_call 96; refine (c3.out _ hb1).mono ?_; rintro e w2 ⟨⟨v, rfl, ht2⟩, hb2⟩; have HT := Lib.hid ht2; have HB := Lib.hid hb2; clear ht2 hb2))
      go_ret2
      exact ⟨⟨_, rfl, HT.out.more hb1.size⟩, hb1.trans (HB.out.mono hb1.size)⟩
  · rw [if_pos t1] at hE
    have t1' : (ge != 0) = true := by simp [t1]
    subst hE
    rw [if_pos t1] at hO
    subst hO
    clear t1 c2
    go_enter Tryz.func68, Tryz.ntmps68
    go_wp2_with (first | (go_at_call 146; (with_reducible refine (c1.out).mono ?_); rintro e w1 ⟨rfl, hb1⟩))
    go_ret2
    exact ⟨⟨_, rfl, TR.nil _ _⟩, hb1⟩

end Go.Proofs.YtogckcjcebckgaaGreat
end

section
/- Have two modules one name? as the document tells it (chapter E): shipfitterref.IsTwice. -/
namespace Go.Proofs.YtogckcjcebckgaaGreat
open Go.RowKit
open Gs (Tx)

theorem place_ge {l : List Plc} (hn : (txs l).Nodup) {i : Nat} (hi : i < l.length) : idxOf (named l[i].m.name) l = i := by
  refine idxOf_some hi (fun k hk hki => ?_) (by simp [named])
  unfold named
  refine decide_eq_false (fun e => ?_)
  have := nodup_one hn k i hk hi (by rw [nmN_at hk, nmN_at hi, e])
  omega
theorem twice_at {l : List Plc} {i : Nat} (hi : i < l.length) (h : idxOf (named l[i].m.name) l < i) : isTwice l = true := by
  rw [twice_nodup]
  intro hn
  rw [place_ge hn hi] at h; omega
theorem twice_no {l : List Plc} (h : ∀ i (hi : i < l.length), ¬ idxOf (named l[i].m.name) l < i) : isTwice l = false := by
  cases e : isTwice l
  · rfl
  · rw [twice_nodup] at e
    refine absurd ?_ e
    refine List.pairwise_iff_getElem.2 (fun i j hi hj hij en => ?_)
    rw [txs_length] at hi hj
    have e1 := txs_at hi
    have e2 := txs_at hj
    rw [e1, e2] at en
    have en := tx_inj en
    refine h j hj ?_
    rcases idxOf_cases (named l[j].m.name) l with ⟨_, hno⟩ | ⟨q, hq, eq, _, hmin⟩
    · have := hno l[j] (List.getElem_mem _); simp [named] at this
    · rw [eq]
      have : ¬ i < q := fun hlt => by have := hmin i hi hlt; simp [named, en] at this
      omega
set_option maxHeartbeats 2000000 in
set_option maxRecDepth 100000 in
theorem IsTwice_any (A : Option Addr) (c : Nat) (l : List Plc) (w : World) (h : Row Plc.cells 8 w A l) (hl : l.length ≤ big) :
    Calls Tryz.prog 185 #[.slice A l.length c] w fun e w' => e = .returned (.bool (isTwice l)) ∧ Below w.heap.size w w' := by
  have HL := Lib.hid hl
  unfold big at hl
  have HP := Lib.hid h
  clear h
  obtain ⟨R, hR⟩ : ∃ R, R = isTwice l := ⟨_, rfl⟩
  rw [← hR]
  have HR := Lib.hid hR
  clear hR
  go_enter Tryz.func185, Tryz.ntmps185
  go_wp2_with fail
  go_loopw [3] (fun i wr => ∃ j : Nat, j ≤ l.length ∧ i = .int .i64 j ∧ (∀ k (hk : k < l.length), k < j → (k : Int) ≤ idxOf (named l[k].m.name) l) ∧ Below w.heap.size w wr) (fun i _ => l.length - (intOf i).toNat)
  case atStart => exact ⟨0, by omega, rfl, by omega, Below.refl _ _⟩
  case round =>
    obtain ⟨j, hj, rfl, hN, hb⟩ := hrel
    have HN := Lib.hid hN
    have HB := Lib.hid hb
    clear hN
    by_cases hlt : j < l.length
    · have hlt' : (j : Int) < l.length := by omega
      have hpl := PlaceOf_any A c l l[j].m.name wr (HP.out.below hb) HL.out
      obtain ⟨ad, rfl, hab, h0, h1, h2, h3, h4, h5, h6, h7⟩ := plc_at HP.out hb j hlt
      obtain ⟨pi, hpi⟩ : ∃ pi, pi = idxOf (named l[j].m.name) l := ⟨_, rfl⟩
      rw [← hpi] at hpl
      have c1 := Lib.hid hpl
      clear hb hpl
      by_cases he : pi < j
      · have hrr := Lib.hid (show R = true by rw [HR.out]; exact twice_at hlt (by omega))
        clear hpi
        go_wp2_with (go_at_call 58; refine (c1.out).mono ?_; rintro e w3 ⟨rfl, hb3⟩)
        go_ret
        exact ⟨ret_bool hrr.out.symm, HB.out.trans (hb3.mono HB.out.size)⟩
      · have HEE := Lib.hid (show (j : Int) ≤ idxOf (named l[j].m.name) l by omega)
        have he' : decide (pi < j) = false := by simp; omega
        clear hpi he
        go_wp2_with (go_at_call 58; refine (c1.out).mono ?_; rintro e w3 ⟨rfl, hb3⟩)
        go_roundw
        case rel => exact ⟨j + 1, by omega, by go_num, fun k hk hkj => by rcases Nat.lt_succ_iff_lt_or_eq.1 hkj with h | rfl; exact HN.out k hk h; exact HEE.out, HB.out.trans (hb3.mono HB.out.size)⟩
        case measure => (simp [intOf]; try omega)
    · have hrr := Lib.hid (show R = false by rw [HR.out]; exact twice_no (fun i hi => by have := HN.out i hi (by omega); omega))
      clear hb
      go_wp2_with fail
      go_ret
      exact ⟨ret_bool hrr.out.symm, HB.out⟩

end Go.Proofs.YtogckcjcebckgaaGreat
end

section
/- What the document says of the graph, small parts (chapter E): textLess, SameTexts, Direct, IsTwice; the laws' has, checkGraph. -/
namespace Go.Proofs.YtogckcjcebckgaaGreat
open Go.RowKit Go.Lib Go.Sort
open Gs (Tx)



set_option maxHeartbeats 2000000 in
set_option maxRecDepth 100000 in
theorem SameTexts_any (A B : Option Addr) (c d : Nat) (l r : List Tx) (w : World) (h : TxRow w A l) (h' : TxRow w B r) (hl : l.length ≤ big) (hr : r.length ≤ big) :
    Calls Tryz.prog 36 #[.slice A l.length c, .slice B r.length d] w fun e w' => e = .returned (.bool (decide (l = r))) ∧ Below w.heap.size w w' := by
  unfold big at hl hr
  have HL := Lib.hid h
  have HR := Lib.hid h'
  clear h h'
  obtain ⟨R, hR⟩ : ∃ R, R = decide (l = r) := ⟨_, rfl⟩
  rw [← hR]
  have HD := Lib.hid hR
  clear hR
  by_cases hlen : l.length = r.length
  · have hlen' : ((l.length : Int) != r.length) = false := by simp; omega
    have HLN := Lib.hid hlen
    clear hlen
    go_enter Tryz.func36, Tryz.ntmps36
    go_wp2_with fail
    go_loopw [5] (fun i wr => ∃ j : Nat, j ≤ l.length ∧ i = .int .i64 j ∧ (∀ k (hk : k < l.length) (hk' : k < r.length), k < j → l[k] = r[k]) ∧ Below w.heap.size w wr) (fun i _ => l.length - (intOf i).toNat)
    case atStart => exact ⟨0, by omega, rfl, by omega, Below.refl _ _⟩
    case round =>
      obtain ⟨j, hj, rfl, hN, hb⟩ := hrel
      have HN := Lib.hid hN
      have HB := Lib.hid hb
      clear hN
      have hln := HLN.out
      by_cases hlt : j < l.length
      · have hltr : j < r.length := by omega
        have hlt' : (j : Int) < l.length := by omega
        have hlt'' : (j : Int) < r.length := by omega
        obtain ⟨ad, rfl, hab, h0⟩ := tx_at HL.out hb j hlt
        obtain ⟨bd, rfl, hbb, h1⟩ := tx_at HR.out hb j hltr
        obtain ⟨s, hs⟩ : ∃ s, s = bs l[j] := ⟨_, rfl⟩
        obtain ⟨t, ht⟩ : ∃ t, t = bs r[j] := ⟨_, rfl⟩
        rw [← hs] at h0
        rw [← ht] at h1
        clear hb hln
        by_cases he : l[j] = r[j]
        · have he' : (s.toList == t.toList) = true := by rw [hs, ht, he]; simp
          clear hs ht
          have HE := Lib.hid he
          clear he
          go_wp2_with fail
          go_quiet (fail)
          go_wp2_with fail
          go_roundw
          case rel => exact ⟨j + 1, by omega, by go_num, fun k hk hk' hkj => by rcases Nat.lt_succ_iff_lt_or_eq.1 hkj with h | rfl; exact HN.out k hk hk' h; exact HE.out, below_drewN HB.out _⟩
          case measure => (simp [intOf]; try omega)
        · have he' : (s.toList == t.toList) = false := str_ne (a := s) (b := t) (fun e => he (by rw [← tx_bs l[j], ← hs, e, ht, tx_bs]))
          clear hs ht
          have hne := Lib.hid (show R = false by rw [HD.out]; simp only [decide_eq_false_iff_not]; rintro rfl; exact he rfl)
          clear he
          go_wp2_with fail
          go_quiet (fail)
          go_wp2_with fail
          go_ret
          exact ⟨ret_bool hne.out.symm, below_drewN HB.out _⟩
      · have hln2 := HLN.out
        have heq := Lib.hid (show R = true by
          rw [HD.out]
          exact decide_eq_true (List.ext_getElem hln2 (fun k hk hk' => HN.out k hk hk' (by omega))))
        clear hb hln hln2
        go_wp2_with fail
        go_ret
        exact ⟨ret_bool heq.out.symm, HB.out⟩
  · have hlen' : ((l.length : Int) != r.length) = true := by simp; omega
    have hne := Lib.hid (show R = false by rw [HD.out]; simp only [decide_eq_false_iff_not]; rintro rfl; exact hlen rfl)
    clear hlen
    go_enter Tryz.func36, Tryz.ntmps36
    go_wp2_with fail
    go_ret
    exact ⟨ret_bool hne.out.symm, Below.refl _ _⟩

set_option maxHeartbeats 2000000 in
set_option maxRecDepth 100000 in
theorem Direct_any (A : Option Addr) (c : Nat) (l : List Plc) (i k : Nat) (w : World) (h : PlsOk w A l) (hi : i < l.length) (hk : k < l.length) :
    Calls Tryz.prog 123 #[.slice A l.length c, .int .i64 i, .int .i64 k] w fun e w' => e = .returned (.bool (asks l[i].m (tx l[k].m.name))) ∧ Below w.heap.size w w' := by
  rw [asks_any]
  have hm := h.each l[i] (List.getElem_mem _)
  have hlen := h.len
  have hml := hm.im.2.1
  unfold big at hlen hml
  obtain ⟨ad, rfl, hab, _⟩ := plc_at h.row (Below.refl _ _) i hi
  have KI := Lib.hid (fun W (hbW : Below w.heap.size w W) => plc_at h.row hbW i hi)
  have KK := Lib.hid (fun W (hbW : Below w.heap.size w W) => plc_at h.row hbW k hk)
  have HM := Lib.hid hm.im.1
  have hi' : (i : Int) < l.length := by omega
  have hk' : (k : Int) < l.length := by omega
  obtain ⟨x, hx⟩ : ∃ x, x = l[i].m := ⟨_, rfl⟩
  obtain ⟨y, hy⟩ : ∃ y, y = l[k].m := ⟨_, rfl⟩
  rw [← hx] at HM hml ⊢
  simp only [← hx] at KI
  simp only [← hy] at KK
  rw [← hy]
  obtain ⟨R, hR⟩ : ∃ R, R = x.im.any (asksQ y.name) := ⟨_, rfl⟩
  rw [← hR]
  have HR := Lib.hid hR
  clear hR hm h hx hy
  go_enter Tryz.func123, Tryz.ntmps123
  go_wp2_with fail
  go_loopw [7] (fun n wr => ∃ j : Nat, j ≤ x.im.length ∧ n = .int .i64 j ∧ (∀ q (hq : q < x.im.length), q < j → asksQ y.name x.im[q] = false) ∧ Below w.heap.size w wr) (fun i _ => x.im.length - (intOf i).toNat)
  case atStart => exact ⟨0, by omega, rfl, by omega, Below.refl _ _⟩
  case round =>
    obtain ⟨j, hj, rfl, hN, hb⟩ := hrel
    have HN := Lib.hid hN
    have HB := Lib.hid hb
    clear hN
    obtain ⟨_, ea, _, a0, a1, a2, a3, a4, a5, a6, a7⟩ := KI.out _ hb
    obtain rfl := Option.some.inj ea
    obtain ⟨_, ea, _, b0, b1, b2, b3, b4, b5, b6, b7⟩ := KK.out _ hb
    obtain rfl := Option.some.inj ea
    by_cases hlt : j < x.im.length
    · have hlt' : (j : Int) < x.im.length := by omega
      obtain ⟨bd, hbd, hbb, h0, h1, h2, h3⟩ := imp_at HM.out hb j hlt
      rw [hbd] at a5
      clear hb hbd
      by_cases he : x.im[j].mod = y.name
      · have he' := str_eq he
        have hrr := Lib.hid (show R = true by rw [HR.out]; exact List.any_eq_true.2 ⟨_, List.getElem_mem hlt, by simp [asksQ, he]⟩)
        clear he
        go_wp2_with fail
        go_quiet (fail)
        go_wp2_with fail
        go_ret
        exact ⟨ret_bool hrr.out.symm, below_drewN HB.out _⟩
      · have he' := str_ne he
        have HEE := Lib.hid (show asksQ y.name x.im[j] = false by simp [asksQ, he])
        clear he
        go_wp2_with fail
        go_quiet (fail)
        go_wp2_with fail
        go_roundw
        case rel => exact ⟨j + 1, by omega, by go_num, fun k hk hkj => by rcases Nat.lt_succ_iff_lt_or_eq.1 hkj with h | rfl; exact HN.out k hk h; exact HEE.out, below_drewN HB.out _⟩
        case measure => (simp [intOf]; try omega)
    · have hrr := Lib.hid (show R = false by
        rw [HR.out, List.any_eq_false]
        intro z hz
        obtain ⟨q, hq, e⟩ := List.getElem_of_mem hz
        rw [← e, HN.out q hq (by omega)]; simp)
      clear hb
      go_wp2_with fail
      go_ret
      exact ⟨ret_bool hrr.out.symm, HB.out⟩

theorem refQ_any : refQ false false = anyQ := by funext x; simp [refQ, anyQ]

end Go.Proofs.YtogckcjcebckgaaGreat
end
