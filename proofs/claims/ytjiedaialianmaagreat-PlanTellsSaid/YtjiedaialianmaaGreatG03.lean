import Derived.Test.YtjiedaialianmaaGreatG02
import Derived.Test.YtjiedaialianmaaGreatG01
import Derived.Laws.OwnMore
import Derived.Deep.AppendLies
import Derived.Shelf.GgClosure.StringsIndexFunc
import Derived.Lib.MapLaws
import Derived.Maps.OwnOps
import Derived.Maps.Views
section

namespace Go.Proofs.YtjiedaialianmaaGreat
open Go.RowKit

theorem block_of_add (a : Addr) (n : Nat) : (a.add n).block = a.block := by unfold Addr.add; split <;> rfl
theorem add_of_add (a : Addr) (i j : Nat) : (a.add i).add j = a.add (i + j) := by
  unfold Addr.add
  by_cases hi : i = 0 <;> by_cases hj : j = 0 <;> simp [hi, hj, Nat.add_assoc]

def Reads (w : World) (B size : Nat) (A : Option Addr) (n : Nat) (xs : List Value) : Prop :=
  xs.length = n * size ∧ (0 < n → ∃ ad, A = some ad ∧ ad.block < B ∧ ∀ j u, xs[j]? = some u → w.cell? (ad.add j) = some u)

section
variable {w w' : World} {B B' size n : Nat} {A : Option Addr} {xs : List Value}
theorem Reads.keep (h : Reads w B size A n xs) (hk : ∀ p : Addr, p.block < B → w'.cell? p = w.cell? p) : Reads w' B size A n xs :=
  ⟨h.1, fun hn => by
    obtain ⟨ad, e, hb, hc⟩ := h.2 hn
    exact ⟨ad, e, hb, fun j u hu => (hk _ (by rw [block_of_add]; exact hb)).trans (hc j u hu)⟩⟩
theorem Reads.more (h : Reads w B size A n xs) (hB : B ≤ B') : Reads w B' size A n xs :=
  ⟨h.1, fun hn => by
    obtain ⟨ad, e, hb, hc⟩ := h.2 hn
    exact ⟨ad, e, by omega, hc⟩⟩
theorem Reads.below (h : Reads w B size A n xs) (hb : Below B w w') : Reads w' B size A n xs := h.keep fun _ hp => hb.cell hp
theorem Reads.of_own {base : Nat} {e : TypeId} {c : Nat} (h : w.ownsRow base e size (.slice A n c) n xs) : Reads w w.heap.size size A n xs := by
  refine ⟨h.1, fun hn => ?_⟩
  obtain ⟨g, cap, hv, _, hlt⟩ := h.form hn
  have hA : A = some ⟨g, 0, none⟩ := by injection hv
  subst hA
  exact ⟨_, rfl, hlt, h.cells (g := g) rfl⟩
end

/-- the slice (A, length) reads in w as these elements, each of so many cells -/
def Row {α : Type} (enc : α → List Value) (k : Nat) (w : World) (A : Option Addr) (l : List α) : Prop := Reads w w.heap.size k A l.length (l.flatMap enc)

theorem flat_get {α : Type} {enc : α → List Value} {k : Nat} (hk : ∀ x, (enc x).length = k) : ∀ (l : List α) (i j : Nat) (hi : i < l.length), j < k → (l.flatMap enc)[i * k + j]? = (enc l[i])[j]?
  | x :: l, 0, j, _, hj => by
    rw [List.flatMap_cons, List.getElem?_append_left (by rw [hk]; omega)]; simp
  | x :: l, i + 1, j, hi, hj => by
    rw [List.flatMap_cons, List.getElem?_append_right (by rw [hk, Nat.succ_mul]; omega), hk]
    have : (i + 1) * k + j - k = i * k + j := by rw [Nat.succ_mul]; omega
    rw [this, flat_get hk l i j (by simpa using hi) hj]; simp
theorem flat_length {α : Type} {enc : α → List Value} {k : Nat} (hk : ∀ x, (enc x).length = k) (l : List α) : (l.flatMap enc).length = l.length * k := by
  induction l with
  | nil => simp
  | cons x l ih => simp [List.flatMap_cons, hk, ih, Nat.succ_mul, Nat.add_comm]

section
variable {α : Type} {enc : α → List Value} {k : Nat} {w w' : World} {A : Option Addr} {l : List α}
theorem Row.below (h : Row enc k w A l) (hb : Below w.heap.size w w') : Row enc k w' A l := (Reads.below h hb).more hb.size
theorem Row.at_ (hk : ∀ x, (enc x).length = k) (h : Row enc k w A l) (i : Nat) (hi : i < l.length) :
    ∃ ad, A = some ad ∧ ad.block < w.heap.size ∧ ∀ j u, (enc l[i])[j]? = some u → w.cell? ((ad.add (i * k)).add j) = some u := by
  obtain ⟨ad, e, hb, hc⟩ := h.2 (by omega)
  refine ⟨ad, e, hb, fun j u hu => ?_⟩
  rw [add_of_add]
  refine hc _ _ ?_
  have hj : j < k := by
    rcases Nat.lt_or_ge j k with h | h
    · exact h
    · rw [List.getElem?_eq_none (by rw [hk]; exact h)] at hu; cases hu
  rw [flat_get hk l i j hi hj]; exact hu
theorem Row.nil : Row enc k w none ([] : List α) := ⟨by simp, fun h => absurd h (by simp)⟩
end

abbrev iv (a : Int) : Value := .int .i64 a
def Exp.cells (x : Exp) : List Value := [.string x.name, iv x.at_]
def Imp.cells (x : Imp) : List Value := [.string x.mod, .string x.name, iv x.major, iv x.minor]
def Pat.cells (p : Pat) : List Value := [iv p.kind, iv p.at_, iv p.sym, iv p.add]
def Mod.cells (m : Mod) : List Value := [.string m.name, iv m.major, iv m.minor, .string m.text, .slice m.eA m.ex.length m.eC, .slice m.iA m.im.length m.iC, .slice m.pA m.pa.length m.pC]
def Plc.cells (x : Plc) : List Value := x.m.cells ++ [iv x.first]
def Krn.cells (x : Krn) : List Value := [iv x.major, iv x.minor, .slice x.eA x.ex.length x.eC]
abbrev Exp.v (x : Exp) : Value := .agg #[.string x.name, iv x.at_]
abbrev Imp.v (x : Imp) : Value := .agg #[.string x.mod, .string x.name, iv x.major, iv x.minor]
abbrev Mod.v (m : Mod) : Value := .agg #[.string m.name, iv m.major, iv m.minor, .string m.text, .slice m.eA m.ex.length m.eC, .slice m.iA m.im.length m.iC, .slice m.pA m.pa.length m.pC]
abbrev Plc.v (x : Plc) : Value := .agg #[.string x.m.name, iv x.m.major, iv x.m.minor, .string x.m.text, .slice x.m.eA x.m.ex.length x.m.eC, .slice x.m.iA x.m.im.length x.m.iC, .slice x.m.pA x.m.pa.length x.m.pC, iv x.first]
abbrev Krn.v (x : Krn) : Value := .agg #[iv x.major, iv x.minor, .slice x.eA x.ex.length x.eC]

def big : Nat := 140737488351232
abbrev ExpsOk (w : World) (A : Option Addr) (l : List Exp) : Prop := Row Exp.cells 2 w A l ∧ l.length ≤ big ∧ ∀ x ∈ l, x.name.size ≤ big
abbrev ImpsOk (w : World) (A : Option Addr) (l : List Imp) : Prop := Row Imp.cells 4 w A l ∧ l.length ≤ big ∧ ∀ x ∈ l, x.mod.size ≤ big ∧ x.name.size ≤ big
abbrev PatsOk (w : World) (A : Option Addr) (l : List Pat) : Prop := Row Pat.cells 4 w A l ∧ l.length ≤ big
structure Mod.ok (m : Mod) (w : World) : Prop where
  ex : ExpsOk w m.eA m.ex
  im : ImpsOk w m.iA m.im
  pa : PatsOk w m.pA m.pa
  name : m.name.size ≤ big
  text : m.text.size ≤ big
theorem Mod.ok.below {m : Mod} {w w' : World} (h : m.ok w) (hb : Below w.heap.size w w') : m.ok w' :=
  ⟨⟨h.ex.1.below hb, h.ex.2⟩, ⟨h.im.1.below hb, h.im.2⟩, ⟨h.pa.1.below hb, h.pa.2⟩, h.name, h.text⟩
structure PlsOk (w : World) (A : Option Addr) (l : List Plc) : Prop where
  row : Row Plc.cells 8 w A l
  len : l.length ≤ big
  each : ∀ x ∈ l, x.m.ok w
theorem PlsOk.below {A : Option Addr} {l : List Plc} {w w' : World} (h : PlsOk w A l) (hb : Below w.heap.size w w') : PlsOk w' A l :=
  ⟨h.row.below hb, h.len, fun x hx => (h.each x hx).below hb⟩
structure Krn.ok (x : Krn) (w : World) : Prop where
  ex : ExpsOk w x.eA x.ex
theorem Krn.ok.below {m : Krn} {w w' : World} (h : m.ok w) (hb : Below w.heap.size w w') : m.ok w' := ⟨⟨h.ex.1.below hb, h.ex.2⟩⟩

theorem add_zero_ (a : Addr) : a.add 0 = a := by simp [Addr.add]
theorem add_pos_ (a : Addr) (j : Nat) (h : 0 < j) : a.add j = ⟨a.block, a.off + j, none⟩ := by unfold Addr.add; rw [if_neg (by omega)]
theorem exp_at {w w' : World} {A : Option Addr} {l : List Exp} (h : Row Exp.cells 2 w A l) (hb : Below w.heap.size w w') (i : Nat) (hi : i < l.length) :
    ∃ ad, A = some ad ∧ ad.block < w.heap.size ∧ w'.cell? (ad.add (i * 2)) = some (.string l[i].name) ∧ w'.cell? ⟨(ad.add (i * 2)).block, (ad.add (i * 2)).off + 1, none⟩ = some (iv l[i].at_) := by
  obtain ⟨ad, rfl, hab, hc⟩ := Row.at_ (enc := Exp.cells) (k := 2) (fun _ => rfl) h i hi
  have e0 := hc 0 _ rfl
  rw [add_zero_] at e0
  have hk : ∀ j u, 0 < j → (Exp.cells l[i])[j]? = some u → w'.cell? ⟨(ad.add (i * 2)).block, (ad.add (i * 2)).off + j, none⟩ = some u := fun j u hj hu => by
    rw [← add_pos_ _ _ hj]
    exact (hb.cell (by rw [block_of_add, block_of_add]; exact hab)).trans (hc j u hu)
  exact ⟨ad, rfl, hab, (hb.cell (by rw [block_of_add]; exact hab)).trans e0, hk 1 _ (by omega) rfl⟩
theorem imp_at {w w' : World} {A : Option Addr} {l : List Imp} (h : Row Imp.cells 4 w A l) (hb : Below w.heap.size w w') (i : Nat) (hi : i < l.length) :
    ∃ ad, A = some ad ∧ ad.block < w.heap.size ∧ w'.cell? (ad.add (i * 4)) = some (.string l[i].mod) ∧ w'.cell? ⟨(ad.add (i * 4)).block, (ad.add (i * 4)).off + 1, none⟩ = some (.string l[i].name) ∧ w'.cell? ⟨(ad.add (i * 4)).block, (ad.add (i * 4)).off + 2, none⟩ = some (iv l[i].major) ∧ w'.cell? ⟨(ad.add (i * 4)).block, (ad.add (i * 4)).off + 3, none⟩ = some (iv l[i].minor) := by
  obtain ⟨ad, rfl, hab, hc⟩ := Row.at_ (enc := Imp.cells) (k := 4) (fun _ => rfl) h i hi
  have e0 := hc 0 _ rfl
  rw [add_zero_] at e0
  have hk : ∀ j u, 0 < j → (Imp.cells l[i])[j]? = some u → w'.cell? ⟨(ad.add (i * 4)).block, (ad.add (i * 4)).off + j, none⟩ = some u := fun j u hj hu => by
    rw [← add_pos_ _ _ hj]
    exact (hb.cell (by rw [block_of_add, block_of_add]; exact hab)).trans (hc j u hu)
  exact ⟨ad, rfl, hab, (hb.cell (by rw [block_of_add]; exact hab)).trans e0, hk 1 _ (by omega) rfl, hk 2 _ (by omega) rfl, hk 3 _ (by omega) rfl⟩
theorem pat_at {w w' : World} {A : Option Addr} {l : List Pat} (h : Row Pat.cells 4 w A l) (hb : Below w.heap.size w w') (i : Nat) (hi : i < l.length) :
    ∃ ad, A = some ad ∧ ad.block < w.heap.size ∧ w'.cell? (ad.add (i * 4)) = some (iv l[i].kind) ∧ w'.cell? ⟨(ad.add (i * 4)).block, (ad.add (i * 4)).off + 1, none⟩ = some (iv l[i].at_) ∧ w'.cell? ⟨(ad.add (i * 4)).block, (ad.add (i * 4)).off + 2, none⟩ = some (iv l[i].sym) ∧ w'.cell? ⟨(ad.add (i * 4)).block, (ad.add (i * 4)).off + 3, none⟩ = some (iv l[i].add) := by
  obtain ⟨ad, rfl, hab, hc⟩ := Row.at_ (enc := Pat.cells) (k := 4) (fun _ => rfl) h i hi
  have e0 := hc 0 _ rfl
  rw [add_zero_] at e0
  have hk : ∀ j u, 0 < j → (Pat.cells l[i])[j]? = some u → w'.cell? ⟨(ad.add (i * 4)).block, (ad.add (i * 4)).off + j, none⟩ = some u := fun j u hj hu => by
    rw [← add_pos_ _ _ hj]
    exact (hb.cell (by rw [block_of_add, block_of_add]; exact hab)).trans (hc j u hu)
  exact ⟨ad, rfl, hab, (hb.cell (by rw [block_of_add]; exact hab)).trans e0, hk 1 _ (by omega) rfl, hk 2 _ (by omega) rfl, hk 3 _ (by omega) rfl⟩
theorem plc_at {w w' : World} {A : Option Addr} {l : List Plc} (h : Row Plc.cells 8 w A l) (hb : Below w.heap.size w w') (i : Nat) (hi : i < l.length) :
    ∃ ad, A = some ad ∧ ad.block < w.heap.size ∧ w'.cell? (ad.add (i * 8)) = some (.string l[i].m.name) ∧ w'.cell? ⟨(ad.add (i * 8)).block, (ad.add (i * 8)).off + 1, none⟩ = some (iv l[i].m.major) ∧ w'.cell? ⟨(ad.add (i * 8)).block, (ad.add (i * 8)).off + 2, none⟩ = some (iv l[i].m.minor) ∧ w'.cell? ⟨(ad.add (i * 8)).block, (ad.add (i * 8)).off + 3, none⟩ = some (.string l[i].m.text) ∧ w'.cell? ⟨(ad.add (i * 8)).block, (ad.add (i * 8)).off + 4, none⟩ = some (.slice l[i].m.eA l[i].m.ex.length l[i].m.eC) ∧ w'.cell? ⟨(ad.add (i * 8)).block, (ad.add (i * 8)).off + 5, none⟩ = some (.slice l[i].m.iA l[i].m.im.length l[i].m.iC) ∧ w'.cell? ⟨(ad.add (i * 8)).block, (ad.add (i * 8)).off + 6, none⟩ = some (.slice l[i].m.pA l[i].m.pa.length l[i].m.pC) ∧ w'.cell? ⟨(ad.add (i * 8)).block, (ad.add (i * 8)).off + 7, none⟩ = some (iv l[i].first) := by
  obtain ⟨ad, rfl, hab, hc⟩ := Row.at_ (enc := Plc.cells) (k := 8) (fun _ => rfl) h i hi
  have e0 := hc 0 _ rfl
  rw [add_zero_] at e0
  have hk : ∀ j u, 0 < j → (Plc.cells l[i])[j]? = some u → w'.cell? ⟨(ad.add (i * 8)).block, (ad.add (i * 8)).off + j, none⟩ = some u := fun j u hj hu => by
    rw [← add_pos_ _ _ hj]
    exact (hb.cell (by rw [block_of_add, block_of_add]; exact hab)).trans (hc j u hu)
  exact ⟨ad, rfl, hab, (hb.cell (by rw [block_of_add]; exact hab)).trans e0, hk 1 _ (by omega) rfl, hk 2 _ (by omega) rfl, hk 3 _ (by omega) rfl, hk 4 _ (by omega) rfl, hk 5 _ (by omega) rfl, hk 6 _ (by omega) rfl, hk 7 _ (by omega) rfl⟩
theorem str_ne {a b : ByteArray} (h : a ≠ b) : (a.toList == b.toList) = false := by
  rw [Lib.toList_data, Lib.toList_data, beq_eq_false_iff_ne]
  exact fun e => h (ba_eq e)
theorem str_eq {a b : ByteArray} (h : a = b) : (a.toList == b.toList) = true := by rw [h]; simp

theorem box3 {w w0 : World} {a0 a1 a2 : Value} {t : TypeId} (h : w0 = w.alloc (.cells #[a0, a1, a2] t)) : w0.cell? ⟨w.heap.size, 0, none⟩ = some a0 ∧ w0.cell? ⟨w.heap.size, 1, none⟩ = some a1 ∧ w0.cell? ⟨w.heap.size, 2, none⟩ = some a2 ∧ w0.heap.size = w.heap.size + 1 ∧ Below w.heap.size w w0 := by
  subst h
  refine ⟨by rw [World.cell?_alloc_new]; rfl, by rw [World.cell?_alloc_new]; rfl, by rw [World.cell?_alloc_new]; rfl, by simp, (Below.refl _ _).alloc (Nat.le_refl _) _⟩
theorem box4 {w w0 : World} {a0 a1 a2 a3 : Value} {t : TypeId} (h : w0 = w.alloc (.cells #[a0, a1, a2, a3] t)) : w0.cell? ⟨w.heap.size, 0, none⟩ = some a0 ∧ w0.cell? ⟨w.heap.size, 1, none⟩ = some a1 ∧ w0.cell? ⟨w.heap.size, 2, none⟩ = some a2 ∧ w0.cell? ⟨w.heap.size, 3, none⟩ = some a3 ∧ w0.heap.size = w.heap.size + 1 ∧ Below w.heap.size w w0 := by
  subst h
  refine ⟨by rw [World.cell?_alloc_new]; rfl, by rw [World.cell?_alloc_new]; rfl, by rw [World.cell?_alloc_new]; rfl, by rw [World.cell?_alloc_new]; rfl, by simp, (Below.refl _ _).alloc (Nat.le_refl _) _⟩
theorem box7 {w w0 : World} {a0 a1 a2 a3 a4 a5 a6 : Value} {t : TypeId} (h : w0 = w.alloc (.cells #[a0, a1, a2, a3, a4, a5, a6] t)) : w0.cell? ⟨w.heap.size, 0, none⟩ = some a0 ∧ w0.cell? ⟨w.heap.size, 1, none⟩ = some a1 ∧ w0.cell? ⟨w.heap.size, 2, none⟩ = some a2 ∧ w0.cell? ⟨w.heap.size, 3, none⟩ = some a3 ∧ w0.cell? ⟨w.heap.size, 4, none⟩ = some a4 ∧ w0.cell? ⟨w.heap.size, 5, none⟩ = some a5 ∧ w0.cell? ⟨w.heap.size, 6, none⟩ = some a6 ∧ w0.heap.size = w.heap.size + 1 ∧ Below w.heap.size w w0 := by
  subst h
  refine ⟨by rw [World.cell?_alloc_new]; rfl, by rw [World.cell?_alloc_new]; rfl, by rw [World.cell?_alloc_new]; rfl, by rw [World.cell?_alloc_new]; rfl, by rw [World.cell?_alloc_new]; rfl, by rw [World.cell?_alloc_new]; rfl, by rw [World.cell?_alloc_new]; rfl, by simp, (Below.refl _ _).alloc (Nat.le_refl _) _⟩
theorem box8 {w w0 : World} {a0 a1 a2 a3 a4 a5 a6 a7 : Value} {t : TypeId} (h : w0 = w.alloc (.cells #[a0, a1, a2, a3, a4, a5, a6, a7] t)) : w0.cell? ⟨w.heap.size, 0, none⟩ = some a0 ∧ w0.cell? ⟨w.heap.size, 1, none⟩ = some a1 ∧ w0.cell? ⟨w.heap.size, 2, none⟩ = some a2 ∧ w0.cell? ⟨w.heap.size, 3, none⟩ = some a3 ∧ w0.cell? ⟨w.heap.size, 4, none⟩ = some a4 ∧ w0.cell? ⟨w.heap.size, 5, none⟩ = some a5 ∧ w0.cell? ⟨w.heap.size, 6, none⟩ = some a6 ∧ w0.cell? ⟨w.heap.size, 7, none⟩ = some a7 ∧ w0.heap.size = w.heap.size + 1 ∧ Below w.heap.size w w0 := by
  subst h
  refine ⟨by rw [World.cell?_alloc_new]; rfl, by rw [World.cell?_alloc_new]; rfl, by rw [World.cell?_alloc_new]; rfl, by rw [World.cell?_alloc_new]; rfl, by rw [World.cell?_alloc_new]; rfl, by rw [World.cell?_alloc_new]; rfl, by rw [World.cell?_alloc_new]; rfl, by rw [World.cell?_alloc_new]; rfl, by simp, (Below.refl _ _).alloc (Nat.le_refl _) _⟩

end Go.Proofs.YtjiedaialianmaaGreat
end

section

namespace Go.Proofs.YtjiedaialianmaaGreat
open Go.RowKit

set_option maxHeartbeats 400000 in
theorem rwithin_any (n a b : Int) (w : World) :
    Calls Tryz.prog 153 #[.int .i64 n, .int .i64 a, .int .i64 b] w fun e w' => e = .returned (.bool (decide (a ≤ n) && decide (n ≤ b))) ∧ w = w' := by
  go_enter Tryz.func153, Tryz.ntmps153
  go_wp2_with fail
  all_goals (go_ret; exact ⟨ret_bool (by rw [Bool.eq_iff_iff]; simp; omega), rfl⟩)

theorem letter_any (c : Int) (w : World) :
    Calls Tryz.prog 233 #[.int .u8 c] w fun e w' => e = .returned (.bool (decide (97 ≤ c) && decide (c ≤ 122))) ∧ w = w' := by
  go_enter Tryz.func233, Tryz.ntmps233
  go_wp2_with fail
  all_goals (go_ret; exact ⟨ret_bool (by rw [Bool.eq_iff_iff]; simp; omega), rfl⟩)


set_option maxHeartbeats 2000000 in
set_option maxRecDepth 1000000 in
theorem indexFunc_any (g : Nat) (lb : Array Value) (eg : ∀ args w, (callFunc g args).run Tryz.prog w = .ok (.enter g args) w) (p : Nat → Bool) (truth : Bool) (s : ByteArray) (w : World) (hp : PredAt Tryz.prog g lb encR p w) :
    Calls Tryz.prog 260 #[.string s, .func (.func g) #[] lb, .bool truth] w fun e w' => e = .returned (.int .i64 (Lib.idxFunc p truth s)) ∧ Below w.heap.size w w' := by
  go_enter Tryz.func260, Tryz.ntmps260
  go_wp2_with fail
  go_loopg [] s.size (fun gf wx => ∃ pos : Nat, wx.heap[w.heap.size]? = some (.stringIter s pos) ∧ Below w.heap.size w wx ∧ Lib.idxFuncFrom p truth s gf pos = Lib.idxFunc p truth s ∧ s.size ≤ pos + gf)
  case atStart => exact ⟨0, World.iter_heap w s 0, (Below.refl _ w).alloc (Nat.le_refl _) _, rfl, by omega⟩
  case round =>
    obtain ⟨pos, hit, hbw, hleft, hfu⟩ := hrel
    by_cases hps : pos < s.size
    · obtain ⟨g', rfl⟩ : ∃ g', gk = g' + 1 := ⟨gk - 1, by omega⟩
      have hnx : ∀ ty, (Instr.next (.pointer (some ⟨w.heap.size, 0, none⟩)) true ty).run Tryz.prog wr = _ := fun ty => Lib.run_next_any_at wr w.heap.size s pos ty hit hps
      have hwd := Lib.width_pos s pos
      obtain ⟨R, hR⟩ : ∃ R, (Utf8.decode s pos).1 = R := ⟨_, rfl⟩
      obtain ⟨K, hK⟩ : ∃ K, (Utf8.decode s pos).2 = K := ⟨_, rfl⟩
      simp only [Lib.idxFuncFrom, hps, if_true, hR, hK] at hleft
      rw [hR, hK] at hnx
      rw [hK] at hwd
      have hit2 := Lib.iterAt_heap wr w.heap.size s pos (pos + K) hit
      have hbw2 := Lib.below_iterAt hbw (k := w.heap.size) (Nat.le_refl _) s (pos + K)
      obtain ⟨W, hWd⟩ : ∃ W, wr.iterAt w.heap.size s (pos + K) = W := ⟨_, rfl⟩
      rw [hWd] at hnx hit2 hbw2
      have cS : Calls Tryz.prog g (#[.int .i32 (R : Int)] ++ lb) W _ := hp W R hbw2
      clear hp
      cases hsp : p R <;> cases truth <;> rw [hsp] at cS <;> simp only [hsp, if_true, Bool.false_eq_true, Bool.true_eq_false, if_false] at hleft
      · go_wp2_with (go_at_fn g; refine cS.mono ?_; rintro e W' ⟨rfl, q, rfl⟩)
        go_ret
        exact ⟨by rw [← hleft] <;> rfl, below_drewN' hbw2 q⟩
      · go_wp2_with (go_at_fn g; refine cS.mono ?_; rintro e W' ⟨rfl, q, rfl⟩)
        go_roundg g'
        case measure => omega
        case rel => exact ⟨pos + K, hit2, below_drewN' hbw2 q, hleft, by omega⟩
      · go_wp2_with (go_at_fn g; refine cS.mono ?_; rintro e W' ⟨rfl, q, rfl⟩)
        go_roundg g'
        case measure => omega
        case rel => exact ⟨pos + K, hit2, below_drewN' hbw2 q, hleft, by omega⟩
      · go_wp2_with (go_at_fn g; refine cS.mono ?_; rintro e W' ⟨rfl, q, rfl⟩)
        go_ret
        exact ⟨by rw [← hleft] <;> rfl, below_drewN' hbw2 q⟩
    · have hnx : ∀ ty, (Instr.next (.pointer (some ⟨w.heap.size, 0, none⟩)) true ty).run Tryz.prog wr = _ := fun ty => Lib.run_next_end_at wr w.heap.size s pos ty hit hps
      rw [Lib.idxFuncFrom_end p truth s gk pos hps] at hleft
      go_wp2_with fail
      go_ret
      exact ⟨by rw [← hleft] <;> rfl, hbw⟩

theorem IndexFunc_any (g : Nat) (lb : Array Value) (eg : ∀ args w, (callFunc g args).run Tryz.prog w = .ok (.enter g args) w) (p : Nat → Bool) (s : ByteArray) (w : World) (hp : PredAt Tryz.prog g lb encR p w) :
    Calls Tryz.prog 234 #[.string s, .func (.func g) #[] lb] w fun e w' => e = .returned (.int .i64 (Lib.idxFunc p true s)) ∧ Below w.heap.size w w' := by
  have c := Lib.hid (indexFunc_any g lb eg p true s w hp)
  go_enter Tryz.func234, Tryz.ntmps234
  go_wp2_with (go_at_call 260; refine c.out.mono ?_; rintro e w' ⟨rfl, hb⟩)
  go_ret
  exact ⟨rfl, hb⟩

/-- a rune that may not stand in a name -/
def badRune (r : Nat) : Bool := decide (126 < r) || !((decide (97 ≤ r) && decide (r ≤ 122)) || (decide (48 ≤ r) && decide (r ≤ 57)) || decide (r = 95))

theorem other_at (w : World) : PredAt Tryz.prog 232 #[] encR badRune w := fun W r _ => by
  unfold FnGives
  by_cases h0 : 126 < r
  · have z0 : (126 : Int) < (r : Int) := by omega
    go_enter Tryz.func232, Tryz.ntmps232
    go_wp2_with fail
    go_ret
    exact ⟨by simp [badRune, h0], 0, rfl⟩
  · have z0 : decide ((126 : Int) < (r : Int)) = false := by simp; omega
    have z1 : IntKind.u8.wrap (r : Int) = r := by simp [IntKind.wrap_u8]; omega
    have c := Lib.hid (fun W => letter_any (r : Int) W)
    by_cases h1 : (97 ≤ r ∧ r ≤ 122)
    · have hl : (decide ((97 : Int) ≤ r) && decide ((r : Int) ≤ 122)) = true := by simp; omega
      go_enter Tryz.func232, Tryz.ntmps232
      go_wp2_with (go_at_call 233; refine (c.out _).mono ?_; rintro e w' ⟨rfl, rfl⟩; try rw [hl])
      all_goals (go_ret; exact ⟨by simp [badRune, h0, h1], 0, rfl⟩)
    · have hl : (decide ((97 : Int) ≤ r) && decide ((r : Int) ≤ 122)) = false := by simp; omega
      have c2 := Lib.hid (fun W => (within_any (r : Int) 48 57 W))
      by_cases h2 : (48 ≤ r ∧ r ≤ 57)
      · go_enter Tryz.func232, Tryz.ntmps232
        go_wp2_with (first | (go_at_call 233; refine (c.out _).mono ?_; rintro e w' ⟨rfl, rfl⟩; try rw [hl]) | (go_at_call 217; refine (c2.out _).mono ?_; rintro e w' ⟨rfl, rfl⟩))
        all_goals (go_ret; exact ⟨by simp [badRune, h0, h2], 0, rfl⟩)
      · go_enter Tryz.func232, Tryz.ntmps232
        go_wp2_with (first | (go_at_call 233; refine (c.out _).mono ?_; rintro e w' ⟨rfl, rfl⟩; try rw [hl]) | (go_at_call 217; refine (c2.out _).mono ?_; rintro e w' ⟨rfl, rfl⟩))
        all_goals (go_ret; exact ⟨ret_bool (by rw [Bool.eq_iff_iff]; simp [badRune, h0]; omega), 0, rfl⟩)

theorem decode_byte (s : ByteArray) (pos : Nat) (h : pos < s.size) : (s[pos].toNat < 128 ∧ Utf8.decode s pos = (s[pos].toNat, 1)) ∨ (128 ≤ s[pos].toNat ∧ 128 ≤ (Utf8.decode s pos).1) := by
  rw [Lib.decode_at]
  have e : s.get! pos = s[pos] := by
    simp [ByteArray.get!, ByteArray.getElem_eq_getElem_data, getElem!_pos, h]
  rw [e]
  rcases Lib.decodeN_shape (s.size - pos) s[pos].toNat (s.get! (pos + 1)).toNat (s.get! (pos + 2)).toNat (s.get! (pos + 3)).toNat with h1 | h1 | h1 | h1 | h1
  · exact .inl h1
  · refine .inr ⟨by omega, ?_⟩; rw [h1.2.2.2.2]; exact h1.2.2.2.1
  · refine .inr ⟨by omega, ?_⟩; rw [h1.2.2.2.2.2.2]; show 128 ≤ _; have := h1.2.2.2.2.1; omega
  · refine .inr ⟨by omega, ?_⟩; rw [h1.2.2.2.2.2.2.2]; show 128 ≤ _; have := h1.2.2.2.2.2.1; omega
  · by_cases hb : s[pos].toNat < 128
    · refine .inl ⟨hb, ?_⟩
      have : Lib.decodeN (s.size - pos) s[pos].toNat (s.get! (pos + 1)).toNat (s.get! (pos + 2)).toNat (s.get! (pos + 3)).toNat = (s[pos].toNat, 1) := by
        unfold Lib.decodeN; rw [if_pos hb]
      exact this
    · refine .inr ⟨by omega, ?_⟩; rw [h1]; show 128 ≤ _; omega

theorem bad_ok (c : UInt8) : badRune c.toNat = !okByte c := by
  have := c.toNat_lt
  unfold badRune okByte
  rw [Bool.eq_iff_iff]; simp; omega
theorem idx_name_from (s : ByteArray) : ∀ f pos, s.size ≤ pos + f → (Lib.idxFuncFrom badRune true s f pos < 0 ↔ (s.data.toList.drop pos).all okByte = true)
  | 0, pos, h => by
    rw [List.drop_eq_nil_of_le (by simpa using h)]
    simp [Lib.idxFuncFrom]
  | f + 1, pos, h => by
    unfold Lib.idxFuncFrom
    by_cases hp : pos < s.size
    · rw [if_pos hp, List.drop_eq_getElem_cons (by simpa using hp)]
      have e : s.data.toList[pos]'(by simpa using hp) = s[pos] := by simp [ByteArray.getElem_eq_getElem_data]
      rw [e, List.all_cons]
      rcases decode_byte s pos hp with ⟨h1, h2⟩ | ⟨h1, h2⟩
      · rw [h2]
        simp only [bad_ok]
        cases hk : okByte s[pos]
        · simp
        · simp only [Bool.not_true, Bool.false_eq_true, if_false, Bool.true_and]
          exact idx_name_from s f (pos + 1) (by omega)
      · have hb : badRune (Utf8.decode s pos).1 = true := by unfold badRune; simp; omega
        have ho : okByte s[pos] = false := by unfold okByte; simp; omega
        rw [if_pos hb, ho]; simp
    · rw [if_neg hp, List.drop_eq_nil_of_le (by simpa using hp)]
      simp
theorem idx_name (s : ByteArray) : decide (Lib.idxFunc badRune true s < 0) = s.data.toList.all okByte := by
  have := idx_name_from s s.size 0 (by omega)
  rw [List.drop_zero] at this
  rw [Bool.eq_iff_iff, decide_eq_true_eq]; exact this

theorem okFirst_eq (s : ByteArray) (h : 0 < s.size) : okFirst s.data.toList = (decide ((97 : Int) ≤ (s[0].toNat : Int)) && decide ((s[0].toNat : Int) ≤ 122)) := by
  have e : s.data.toList = s[0] :: s.data.toList.drop 1 := by
    have := List.drop_eq_getElem_cons (l := s.data.toList) (i := 0) (by simpa using h)
    simpa [ByteArray.getElem_eq_getElem_data] using this
  rw [e]; unfold okFirst
  rw [Bool.eq_iff_iff]; simp; omega

set_option maxHeartbeats 1000000 in
theorem Name_any (s : ByteArray) (w : World) (hs : s.size ≤ big) :
    Calls Tryz.prog 181 #[.string s] w fun e w' => e = .returned (.bool (isName s)) ∧ Below w.heap.size w w' := by
  unfold big at hs
  have HB := Lib.hid (Below.refl w.heap.size w)
  by_cases h0 : s.size = 0
  · have hn : isName s = false := by
      have : s.data.toList = [] := List.eq_nil_of_length_eq_zero (by simpa using h0)
      unfold isName; rw [this]; simp [okFirst]
    rw [hn]; clear hn
    go_enter Tryz.func181, Tryz.ntmps181
    go_wp2_with fail
    all_goals (go_ret; exact ⟨rfl, HB.out⟩)
  by_cases h1 : 10 < s.size
  · have hn : isName s = false := by unfold isName; simp; omega
    rw [hn]; clear hn
    have z0 : (10 : Int) < s.size := by omega
    go_enter Tryz.func181, Tryz.ntmps181
    go_wp2_with fail
    all_goals (go_ret; exact ⟨rfl, HB.out⟩)
  have h2 : 0 < s.size := by omega
  have z1 : (1 : Int) ≤ s.size := by omega
  have z2 : (s.size : Int) ≤ 10 := by omega
  have c1 := Lib.hid (fun W => (letter_any (s[0].toNat : Int) W).mono fun _ _ h => (⟨h.1.trans (ret_bool (okFirst_eq s h2).symm), h.2⟩ : _ = Ending.returned (.bool (okFirst s.data.toList)) ∧ _))
  cases hl : okFirst s.data.toList
  · have hn : isName s = false := by unfold isName; simp [hl]
    rw [hl] at c1
    rw [hn]; clear hn hl
    go_enter Tryz.func181, Tryz.ntmps181
    go_wp2_with (go_at_call 233; refine (c1.out _).mono ?_; rintro e w' ⟨rfl, rfl⟩)
    all_goals (go_ret; exact ⟨rfl, HB.out⟩)
  · have hn : isName s = s.data.toList.all okByte := by unfold isName; simp [hl]; omega
    rw [hl] at c1
    rw [hn, ← idx_name]; clear hn hl
    have c2 := Lib.hid (fun W => IndexFunc_any 232 #[] (enters_of Tryz.func232 (by kernel_rfl) rfl) badRune s W (other_at W))
    obtain ⟨r, hr⟩ : ∃ r, r = Lib.idxFunc badRune true s := ⟨_, rfl⟩
    rw [← hr] at c2 ⊢
    clear hr
    go_enter Tryz.func181, Tryz.ntmps181
    go_wp2_with (first | (go_at_call 233; refine (c1.out _).mono ?_; rintro e w' ⟨rfl, rfl⟩) | (go_at_call 234; refine (c2.out _).mono ?_; rintro e w1 ⟨rfl, hb⟩))
    all_goals (go_ret; first | exact ⟨by simp [*], hb⟩ | exact ⟨by simp, hb⟩)

theorem all_take (p : UInt8 → Bool) (s : ByteArray) (j : Nat) (h : j < s.size) : (s.data.toList.take (j + 1)).all p = ((s.data.toList.take j).all p && p s[j]) := by
  have e := List.take_append_getElem (l := s.data.toList) (i := j) (by simpa using h)
  rw [← e, List.all_append]; simp [ByteArray.getElem_eq_getElem_data]
theorem all_no (p : UInt8 → Bool) (s : ByteArray) (j : Nat) (h : j < s.size) (hp : p s[j] = false) : s.data.toList.all p = false := by
  rw [List.all_eq_false]
  exact ⟨s[j], by rw [show s[j] = s.data.toList[j]'(by simpa using h) by simp [ByteArray.getElem_eq_getElem_data]]; exact List.getElem_mem _, by simp [hp]⟩
theorem all_end (p : UInt8 → Bool) (s : ByteArray) (j : Nat) (h : ¬ j < s.size) (hp : (s.data.toList.take j).all p = true) : s.data.toList.all p = true := by
  rwa [List.take_of_length_le (by simp; omega)] at hp

set_option maxHeartbeats 1000000 in
theorem IsName_any (s : ByteArray) (w : World) (hs : s.size ≤ big) :
    Calls Tryz.prog 142 #[.string s] w fun e w' => e = .returned (.bool (isName s)) ∧ w = w' := by
  unfold big at hs
  by_cases h0 : s.size = 0
  · have hn : isName s = false := by
      have : s.data.toList = [] := List.eq_nil_of_length_eq_zero (by simpa using h0)
      unfold isName; rw [this]; simp [okFirst]
    rw [hn]; clear hn
    go_enter Tryz.func142, Tryz.ntmps142
    go_wp2_with (first | (go_at_call 75; (with_reducible refine (between_f _ _ _ _ ?_).mono ?_); (focus (first | omega | assumption)); rintro e w' ⟨rfl, rfl⟩))
    all_goals (go_ret; exact ⟨rfl, rfl⟩)
  by_cases h1 : 10 < s.size
  · have hn : isName s = false := by unfold isName; simp; omega
    rw [hn]; clear hn
    have z0 : (10 : Int) < s.size := by omega
    go_enter Tryz.func142, Tryz.ntmps142
    go_wp2_with (first | (go_at_call 75; (with_reducible refine (between_f _ _ _ _ ?_).mono ?_); (focus (first | omega | assumption)); rintro e w' ⟨rfl, rfl⟩))
    all_goals (go_ret; exact ⟨rfl, rfl⟩)
  have h2 : 0 < s.size := by omega
  have z1 : (1 : Int) ≤ s.size := by omega
  have z2 : (s.size : Int) ≤ 10 := by omega
  have c0 := Lib.hid (fun W => between_t s.size 1 10 W z1 z2)
  have q0 : wrap64 (s[0].toNat : Int) = s[0].toNat := by have := s[0].toNat_lt; exact IntWalk.wrap64_in _ (by omega)
  have c1 := Lib.hid (fun W => (between_any (s[0].toNat : Int) 97 122 W).mono fun _ _ h => (⟨h.1.trans (ret_bool (okFirst_eq s h2).symm), h.2⟩ : _ = Ending.returned (.bool (okFirst s.data.toList)) ∧ _))
  cases hl : okFirst s.data.toList
  · have hn : isName s = false := by unfold isName; simp [hl]
    rw [hl] at c1
    rw [hn]; clear hn hl
    go_enter Tryz.func142, Tryz.ntmps142
    go_wp2_with (first | (go_at_call 75; (with_reducible refine (c0.out _).mono ?_); rintro e w' ⟨rfl, rfl⟩) | (go_at_call 75; (with_reducible refine (c1.out _).mono ?_); rintro e w' ⟨rfl, rfl⟩))
    all_goals (go_ret; exact ⟨rfl, rfl⟩)
  · have hn : isName s = s.data.toList.all okByte := by unfold isName; simp [hl]; omega
    rw [hl] at c1
    obtain ⟨B, hB⟩ : ∃ B, B = s.data.toList.all okByte := ⟨_, rfl⟩
    rw [hn, ← hB]; clear hn hl
    have HB := Lib.hid hB
    clear hB
    go_enter Tryz.func142, Tryz.ntmps142
    go_wp2_with (first | (go_at_call 75; (with_reducible refine (c0.out _).mono ?_); rintro e w' ⟨rfl, rfl⟩) | (go_at_call 75; (with_reducible refine (c1.out _).mono ?_); rintro e w' ⟨rfl, rfl⟩))
    go_loop [3, 4] (fun i _ => ∃ j : Nat, j ≤ s.size ∧ i = .int .i64 j ∧ (s.data.toList.take j).all okByte = true) (fun i _ => s.size - (intOf i).toNat)
    case atStart => exact ⟨0, by omega, rfl, by simp⟩
    case round =>
      obtain ⟨j, hj, rfl, hall⟩ := hrel
      have HA := Lib.hid hall
      clear hall
      by_cases hlt : j < s.size
      · have hlt' : (j : Int) < s.size := by omega
        have q1 : wrap64 (s[j].toNat : Int) = s[j].toNat := by have := s[j].toNat_lt; exact IntWalk.wrap64_in _ (by omega)
        have d1 := Lib.hid (fun W => between_any (s[j].toNat : Int) 97 122 W)
        have d2 := Lib.hid (fun W => between_any (s[j].toNat : Int) 48 57 W)
        have ha := Lib.hid (all_take okByte s j hlt)
        have hn := Lib.hid (all_no okByte s j hlt)
        by_cases k1 : 97 ≤ s[j].toNat ∧ s[j].toNat ≤ 122
        · have o1 := Lib.hid (show okByte s[j] = true by unfold okByte; simp; omega)
          rw [show (decide (97 ≤ (s[j].toNat : Int)) && decide ((s[j].toNat : Int) ≤ 122)) = true by simp; omega] at d1
          clear k1
          go_wp2_with (first | (go_at_call 75; (with_reducible refine (d1.out _).mono ?_); rintro e w' ⟨rfl, rfl⟩))
          go_round
          case rel => exact ⟨j + 1, by omega, by go_num, by rw [ha.out, HA.out, o1.out]; rfl⟩
          case measure => (simp [intOf]; try omega)
        rw [show (decide (97 ≤ (s[j].toNat : Int)) && decide ((s[j].toNat : Int) ≤ 122)) = false by simp; omega] at d1
        by_cases k2 : 48 ≤ s[j].toNat ∧ s[j].toNat ≤ 57
        · have o1 := Lib.hid (show okByte s[j] = true by unfold okByte; simp; omega)
          rw [show (decide (48 ≤ (s[j].toNat : Int)) && decide ((s[j].toNat : Int) ≤ 57)) = true by simp; omega] at d2
          clear k1 k2
          go_wp2_with (first | (go_at_call 75; (with_reducible refine (d1.out _).mono ?_); rintro e w' ⟨rfl, rfl⟩) | (go_at_call 75; (with_reducible refine (d2.out _).mono ?_); rintro e w' ⟨rfl, rfl⟩))
          go_round
          case rel => exact ⟨j + 1, by omega, by go_num, by rw [ha.out, HA.out, o1.out]; rfl⟩
          case measure => (simp [intOf]; try omega)
        rw [show (decide (48 ≤ (s[j].toNat : Int)) && decide ((s[j].toNat : Int) ≤ 57)) = false by simp; omega] at d2
        by_cases k3 : s[j].toNat = 95
        · have o1 := Lib.hid (show okByte s[j] = true by unfold okByte; simp; omega)
          have k4 : ((s[j].toNat : Int) != 95) = false := by simp; omega
          clear k1 k2 k3
          go_wp2_with (first | (go_at_call 75; (with_reducible refine (d1.out _).mono ?_); rintro e w' ⟨rfl, rfl⟩) | (go_at_call 75; (with_reducible refine (d2.out _).mono ?_); rintro e w' ⟨rfl, rfl⟩))
          go_round
          case rel => exact ⟨j + 1, by omega, by go_num, by rw [ha.out, HA.out, o1.out]; rfl⟩
          case measure => (simp [intOf]; try omega)
        · have o1 := Lib.hid (hn.out (show okByte s[j] = false by unfold okByte; simp; omega))
          have k4 : ((s[j].toNat : Int) != 95) = true := by simp; omega
          clear k1 k2 k3
          go_wp2_with (first | (go_at_call 75; (with_reducible refine (d1.out _).mono ?_); rintro e w' ⟨rfl, rfl⟩) | (go_at_call 75; (with_reducible refine (d2.out _).mono ?_); rintro e w' ⟨rfl, rfl⟩))
          go_ret
          exact ⟨ret_bool (HB.out.trans o1.out).symm, rfl⟩
      · have o1 := Lib.hid (all_end okByte s j hlt HA.out)
        go_wp2_with fail
        go_ret
        exact ⟨ret_bool (HB.out.trans o1.out).symm, rfl⟩

end Go.Proofs.YtjiedaialianmaaGreat
end

section

namespace Go.Proofs.YtjiedaialianmaaGreat
open Go.RowKit

set_option maxHeartbeats 2000000 in
theorem CheckExports_any (A : Option Addr) (c : Nat) (l : List Exp) (most : Int) (w : World) (h : ExpsOk w A l) (hm : 0 ≤ most) (hm2 : most ≤ big) :
    Calls Tryz.prog 76 #[.slice A l.length c, .int .i64 most] w fun e w' => e = .returned (.int .i64 (expErr [] most l)) ∧ Below w.heap.size w w' := by
  obtain ⟨hr, hl, hs⟩ := h
  unfold big at hl hm2
  have HR := Lib.hid hr
  have HS := Lib.hid hs
  clear hr hs
  have c3 := Lib.hid (fun W n => between_any n 0 (most - 1) W)
  have q1 : wrap64 (most - 1) = most - 1 := IntWalk.wrap64_in _ (by omega)
  go_enter Tryz.func76, Tryz.ntmps76
  go_wp2_with fail
  go_loopw [5] (fun i wr => ∃ j : Nat, j ≤ l.length ∧ i = .int .i64 j ∧ expFrom l most j = expErr [] most l ∧ Below w.heap.size w wr) (fun i _ => l.length - (intOf i).toNat)
  case atStart => exact ⟨0, by omega, rfl, rfl, Below.refl _ _⟩
  case round =>
    obtain ⟨j, hj, rfl, hE, hb⟩ := hrel
    have HE := Lib.hid hE
    have HB := Lib.hid hb
    clear hE
    by_cases hlt : j < l.length
    · have hlt' : (j : Int) < l.length := by omega
      obtain ⟨ad, rfl, hab, h0, h1⟩ := exp_at HR.out hb j hlt
      clear hb
      have hsz := HS.out l[j] (List.getElem_mem _)
      have c1 := Lib.hid (fun W => IsName_any l[j].name W hsz)
      cases hnm : isName l[j].name
      · rw [hnm] at c1
        have e1 := Lib.hid ((expFrom_form (most := most) hlt hnm).symm.trans HE.out)
        clear hnm
        go_wp2_with (first | (go_at_call 142; (with_reducible refine (c1.out _).mono ?_); rintro e w' ⟨rfl, rfl⟩))
        go_ret
        exact ⟨ret_int e1.out, HB.out⟩
      · rw [hnm] at c1
        have HM := Lib.hid hnm
        clear hnm
        go_wp2_with (first | (go_at_call 142; (with_reducible refine (c1.out _).mono ?_); rintro e w' ⟨rfl, rfl⟩))
        go_loopw [6] (fun i wi => ∃ k : Nat, k ≤ j ∧ i = .int .i64 k ∧ (∀ k' (hk : k' < l.length), k' < k → l[k'].name ≠ l[j].name) ∧ Below w.heap.size w wi) (fun i _ => j - (intOf i).toNat)
        case atStart => exact ⟨0, by omega, rfl, by omega, HB.out⟩
        case round =>
          obtain ⟨k, hk, rfl, hK, hb2⟩ := hrel
          have HK := Lib.hid hK
          have HB2 := Lib.hid hb2
          clear hK
          obtain ⟨_, ead, _, g0, g1⟩ := exp_at HR.out hb2 j hlt
          obtain rfl := Option.some.inj ead
          by_cases hkj : k < j
          · have hkl : k < l.length := by omega
            have hkj' : (k : Int) < j := by omega
            obtain ⟨_, ead, _, f0, _⟩ := exp_at HR.out hb2 k hkl
            obtain rfl := Option.some.inj ead
            clear hb2 ead
            by_cases heq : l[k].name = l[j].name
            · have e1 := Lib.hid ((expFrom_twice (most := most) hlt HM.out hkl hkj heq).symm.trans HE.out)
              go_wp2_with fail
              go_quiet (fail)
              go_wp2_with fail
              go_ret
              exact ⟨ret_int e1.out, below_drewN HB2.out _⟩
            · have HQ := Lib.hid heq
              have hd := str_ne heq
              clear heq
              go_wp2_with fail
              go_quiet (fail)
              go_wp2_with fail
              go_roundw
              case rel => exact ⟨k + 1, by omega, by go_num, fun k' h' hlt => by rcases Nat.lt_succ_iff_lt_or_eq.1 hlt with h | rfl; exact HK.out k' h' h; exact HQ.out, below_drewN HB2.out _⟩
              case measure => (simp [intOf]; try omega)
          · obtain rfl : k = j := by omega
            clear hb2 ead
            by_cases hr : 0 ≤ l[k].at_ ∧ l[k].at_ < most
            · have e1 := Lib.hid ((expFrom_next hlt HM.out (fun k' h' hlt => HK.out k' h' hlt) hr).trans HE.out)
              have c4 := Lib.hid (fun W => between_t l[k].at_ 0 (most - 1) W hr.1 (by omega))
              clear hr
              go_wp2_with (first | (go_at_call 75; (with_reducible refine (c4.out _).mono ?_); rintro e w' ⟨rfl, rfl⟩))
              go_roundw
              case rel => exact ⟨k + 1, by omega, by go_num, e1.out, HB2.out⟩
              case measure => (simp [intOf]; try omega)
            · have e1 := Lib.hid ((expFrom_range hlt HM.out (fun k' h' hlt => HK.out k' h' hlt) (by omega)).symm.trans HE.out)
              have c4 := Lib.hid (fun W => between_f l[k].at_ 0 (most - 1) W (by omega))
              clear hr
              go_wp2_with (first | (go_at_call 75; (with_reducible refine (c4.out _).mono ?_); rintro e w' ⟨rfl, rfl⟩))
              go_ret
              exact ⟨ret_int e1.out, HB2.out⟩
    · have e1 := Lib.hid ((expFrom_end (most := most) hlt).symm.trans HE.out)
      go_wp2_with fail
      go_ret
      exact ⟨ret_int e1.out, HB.out⟩

end Go.Proofs.YtjiedaialianmaaGreat
end

section

namespace Go.Proofs.YtjiedaialianmaaGreat
open Go.RowKit Go.Maps Go.WideMaps

theorem Tryz.law : Keyed Tryz.prog 9 := string_keyed Tryz.underlying9
theorem Tryz.zeroI (w : World) : (zeroValue 3).run Tryz.prog w = .ok (.int .i64 0) w := by kernel_rfl

def huge : Nat := 1000000000000000000
def cnt (ks : List ByteArray) (s : ByteArray) : Int := ((ks.filter (fun k => decide (k = s))).length : Nat)
theorem cnt_snoc (ks : List ByteArray) (x s : ByteArray) : cnt (ks ++ [x]) s = if x = s then cnt ks s + 1 else cnt ks s := by
  unfold cnt; rw [List.filter_append, List.length_append]
  by_cases h : x = s <;> simp [h]
theorem cnt_le (ks : List ByteArray) (s : ByteArray) : 0 ≤ cnt ks s ∧ cnt ks s ≤ ks.length := by
  unfold cnt; have := List.length_filter_le (fun k => decide (k = s)) ks; omega
theorem cnt_pos {ks : List ByteArray} {s : ByteArray} : 0 < cnt ks s ↔ s ∈ ks := by
  unfold cnt
  constructor
  · intro h
    have : 0 < (ks.filter (fun k => decide (k = s))).length := by omega
    obtain ⟨x, hx⟩ := List.exists_mem_of_length_pos this
    obtain ⟨h1, h2⟩ := List.mem_filter.1 hx
    obtain rfl : x = s := by simpa using h2
    exact h1
  · intro h
    have : 0 < (ks.filter (fun k => decide (k = s))).length := List.length_pos_of_mem (List.mem_filter.2 ⟨h, by simp⟩)
    omega
theorem cnt_wf {ks : List ByteArray} {s : ByteArray} {n : Nat} (h : ks.length ≤ n) (hn : n ≤ 140737488351232) : (Lit.int .i64 (cnt ks s + 1)).wf = true := by
  have := cnt_le ks s
  exact WalkArith.wf_i64 (by omega)
theorem cnt_wrap {ks : List ByteArray} {s : ByteArray} {n : Nat} (h : ks.length ≤ n) (hn : n ≤ 140737488351232) : wrap64 (cnt ks s + 1) = cnt ks s + 1 := by
  have := cnt_le ks s
  exact IntWalk.wrap64_in _ (by omega)
/-- block b is a map of at most n entries that tells how often each name stands in ks -/
def Counts (w : World) (b n : Nat) (ks : List ByteArray) : Prop :=
  ∃ D : DataW Unit, w.ownsMap Tryz.prog 9 (plainElem Tryz.prog 3) b n D ∧ ∀ s : ByteArray, D.atKey (.string s.data.toList) (.lit (.int .i64 0)) = .lit (.int .i64 (cnt ks s))
theorem Counts.put {w w' : World} {b n : Nat} {ks : List ByteArray} {D : DataW Unit} {x : ByteArray} (h0 : w.ownsMap Tryz.prog 9 (plainElem Tryz.prog 3) b n D)
    (h : w'.ownsMap Tryz.prog 9 (plainElem Tryz.prog 3) b (n + 1) (D.put (.string x.data.toList) (.lit (.int .i64 (cnt ks x + 1)))))
    (hD : ∀ s : ByteArray, D.atKey (.string s.data.toList) (.lit (.int .i64 0)) = .lit (.int .i64 (cnt ks s))) : 
    ∀ s : ByteArray, (D.put (.string x.data.toList) (.lit (.int .i64 (cnt ks x + 1)))).atKey (.string s.data.toList) (.lit (.int .i64 0)) = .lit (.int .i64 (cnt (ks ++ [x]) s)) := by
  intro s
  have hm : IsMap D := by obtain ⟨es, clock, _, _, _, rfl⟩ := h0; exact ⟨_, rfl⟩
  rw [cnt_snoc]
  by_cases e : x = s
  · subst e
    rw [if_pos rfl]
    exact atKey_put_same hm (by simp [WideAt.IsKeyLit]) _ _
  · rw [if_neg e, atKey_put_other, hD]
    intro h
    simp only [Lit.string.injEq] at h
    exact e (ba_eq h.symm)
theorem Counts.alloc {w : World} {b n : Nat} {ks : List ByteArray} (h : Counts w b n ks) (o : Obj) : Counts (w.alloc o) b n ks := by
  obtain ⟨D, h1, h2⟩ := h; exact ⟨D, h1.alloc o, h2⟩
theorem Counts.lt {w : World} {b n : Nat} {ks : List ByteArray} (h : Counts w b n ks) : b < w.heap.size := by
  obtain ⟨D, h1, h2⟩ := h; exact h1.lt
theorem Counts.kept {w w' : World} {b n B : Nat} {ks : List ByteArray} (h : Counts w b n ks) (hb : Below B w w') (hB : b < B) : Counts w' b n ks := by
  obtain ⟨D, ⟨es, clock, hb', F, hs, hD⟩, h2⟩ := h
  exact ⟨D, ⟨es, clock, (hb.block b hB).trans hb', F, hs, hD⟩, h2⟩
theorem Counts.made (w : World) : Counts (w.alloc (.map #[] 0)) w.heap.size 0 [] := ⟨.map [], World.ownsMap_made _ _ _ _, fun _ => rfl⟩
theorem counts_lookup (w : World) {ops : Array Oper} {rest : List Oper} {o : Oper} {a : Act} {Q : Exit → Act → World → Prop}
    (hg : o.guard = none) (m x : Operand) (hop : o.op = Op.lookup 251 m x false) (b n : Nat) (ks : List ByteArray) (h : Counts w b n ks) (s : ByteArray) (hs : s.size ≤ huge)
    (hm : a.eval m = .map (some b)) (hx : a.eval x = .string s) (c : Int) (hc : c = cnt ks s)
    (hK : wpList Tryz.prog ops Q rest (a.put o.dst (.int .i64 c)) w) : wpList Tryz.prog ops Q (o :: rest) a w := by
  obtain ⟨D, hown, hD⟩ := h
  refine wpList_lookup_own_int w hg m x 251 hop 9 3 .i64 Tryz.law Tryz.underlying251 Tryz.underlying3 (Tryz.zeroI _) b n D hm hown _ _ hx (keyOf_string_mk Tryz.underlying9 (by unfold maxLen; unfold huge at hs; omega)) ?_
  intro c2 hat _
  obtain rfl : c = c2 := by
    have := (hD s).symm.trans hat
    rw [hc]; simpa using this
  exact hK
theorem counts_update (w : World) {ops : Array Oper} {rest : List Oper} {o : Oper} {a : Act} {Q : Exit → Act → World → Prop}
    (hg : o.guard = none) (m x v : Operand) (hop : o.op = Op.mapUpdate 251 m x v) (b n : Nat) (ks : List ByteArray) (h : Counts w b n ks) (s : ByteArray) (hs : s.size ≤ huge)
    (hn : ks.length ≤ big) (hj : n ≤ big) (hm : a.eval m = .map (some b)) (hx : a.eval x = .string s) (c : Int) (hc : c = cnt ks s) (hv : a.eval v = .int .i64 (wrap64 (c + 1)))
    (hK : ∀ w', Counts w' b (n + 1) (ks ++ [s]) → w.grownBy w' (some b) → wpList Tryz.prog ops Q rest (a.put o.dst undef) w') : wpList Tryz.prog ops Q (o :: rest) a w := by
  obtain ⟨D, hown, hD⟩ := h
  have hw : wrap64 (c + 1) = c + 1 := by rw [hc]; exact cnt_wrap hn (by unfold big; omega)
  rw [hw] at hv
  refine wpList_mapUpdate_own w hg m x v 251 hop 9 3 Tryz.law Tryz.underlying251 (plainElem Tryz.prog 3) b n D hm hown (by unfold maxLen; unfold big at hj; omega) _ _ _ hx hv
    (keyOf_string_mk Tryz.underlying9 (by unfold maxLen; unfold huge at hs; omega)) (.lit (.int .i64 (c + 1))) [] (plainElem_int Tryz.underlying3 (by rw [hc]; exact cnt_wf hn (by unfold big; omega))) ?_
  intro w' h1 h2
  rw [hc] at h1
  exact hK w' ⟨_, h1, Counts.put hown h1 hD⟩ h2
theorem made_kept {w w1 : World} {cs : Array Value} {t : TypeId} {B : Nat} (h : (w.alloc (.cells cs t)).grownBy w1 (some B)) (hB : B < w.heap.size) :
    (∀ i u, cs[i]? = some u → w1.cell? ⟨w.heap.size, i, none⟩ = some u) ∧ w.heap.size < w1.heap.size ∧ Below B w w1 := by
  have hnb : w.heap.size < (w.alloc (.cells cs t)).heap.size := by simp
  refine ⟨fun i u hu => ?_, Nat.lt_of_lt_of_le hnb h.size, ((Below.refl B w).alloc (by omega) _).grown h (by simp; omega) (by simp)⟩
  refine (World.cell?_of_block (h.block _ hnb (by simp; omega))).trans ?_
  rw [World.cell?_alloc_new]; exact hu
theorem take_map_snoc {α β : Type} (l : List α) (f : α → β) (j : Nat) (h : j < l.length) : (l.take (j + 1)).map f = (l.take j).map f ++ [f l[j]] := by
  rw [← List.take_append_getElem h, List.map_append]; rfl
theorem mem_take_map {α β : Type} (l : List α) (f : α → β) (j : Nat) (h : j ≤ l.length) (s : β) : s ∈ (l.take j).map f ↔ ∃ k, ∃ hk : k < l.length, k < j ∧ f l[k] = s := by
  rw [List.mem_map]
  constructor
  · rintro ⟨z, hz, rfl⟩
    rw [List.mem_take_iff_getElem] at hz
    obtain ⟨k, hk1, rfl⟩ := hz
    exact ⟨k, by omega, by omega, rfl⟩
  · rintro ⟨k, hk, hkj, rfl⟩
    exact ⟨l[k], by rw [List.mem_take_iff_getElem]; exact ⟨k, by omega, rfl⟩, rfl⟩

set_option maxHeartbeats 2000000 in
set_option maxRecDepth 100000 in
theorem MExports_any (A : Option Addr) (c : Nat) (l : List Exp) (most : Int) (w : World) (h : ExpsOk w A l) (hm : 0 ≤ most) (hm2 : most ≤ big) :
    Calls Tryz.prog 154 #[.slice A l.length c, .int .i64 most] w fun e w' => e = .returned (.int .i64 (expErr [] most l)) ∧ Below w.heap.size w w' := by
  obtain ⟨hr, hl, hs⟩ := h
  unfold big at hl hm2
  have HR := Lib.hid hr
  have HS := Lib.hid hs
  clear hr hs
  have q1 : wrap64 (most - 1) = most - 1 := IntWalk.wrap64_in _ (by omega)
  have hmm := @run_makeMap Tryz.prog
  go_enter Tryz.func154, Tryz.ntmps154
  go_wp2_with fail
  go_loopw [11] (fun i wr => ∃ j : Nat, j ≤ l.length ∧ i = .int .i64 j ∧ expFrom l most j = expErr [] most l ∧ Counts wr w.heap.size j ((l.take j).map (·.name)) ∧ Below w.heap.size w wr) (fun i _ => l.length - (intOf i).toNat)
  case atStart => exact ⟨0, by omega, rfl, rfl, Counts.made _, (Below.refl _ _).alloc (Nat.le_refl _) _⟩
  case round =>
    obtain ⟨j, hj, rfl, hE, hco, hb⟩ := hrel
    have HE := Lib.hid hE
    have HB := Lib.hid hb
    have HC := Lib.hid hco
    clear hE hco
    by_cases hlt : j < l.length
    · have hlt' : (j : Int) < l.length := by omega
      obtain ⟨ad, rfl, hab, h0, h1⟩ := exp_at HR.out hb j hlt
      have hsz := HS.out l[j] (List.getElem_mem _)
      have hsh := Lib.hid (show (l[j]'hlt).name.size ≤ huge by unfold huge; unfold big at hsz; omega)
      have hsm := Lib.hid (take_map_snoc l (·.name) j hlt)
      have hmt := Lib.hid (mem_take_map l (·.name) j (by omega) l[j].name)
      obtain ⟨ks, hks⟩ : ∃ ks, ks = (l.take j).map (·.name) := ⟨_, rfl⟩
      rw [← hks] at hsm hmt HC
      have hkl := Lib.hid (show ks.length ≤ big by rw [hks]; simp; unfold big; omega)
      have hjl := Lib.hid (show j ≤ big by unfold big; omega)
      have hbk : w.heap.size < wr.heap.size := HC.out.lt
      have hwb : w.heap.size ≠ wr.heap.size := by omega
      obtain ⟨cn, hcn⟩ : ∃ cn, cn = cnt ks (l[j]'hlt).name := ⟨_, rfl⟩
      have q2 : wrap64 (cn + 1) = cn + 1 := by rw [hcn]; exact cnt_wrap hkl.out (by unfold big; omega)
      have hcp := Lib.hid (cnt_pos (ks := ks) (s := (l[j]'hlt).name))
      have hcs := Lib.hid (cnt_snoc ks (l[j]'hlt).name (l[j]'hlt).name)
      rw [← hcn] at hcp hcs
      have HCN := Lib.hid hcn
      have c1 := Lib.hid (fun W => Name_any (l[j]'hlt).name W hsz)
      clear hb hks hcn
      rw [if_pos rfl] at hcs
      have c2 := Lib.hid (fun W => within_any (l[j]'hlt).at_ 0 (most - 1) W)
      obtain ⟨bn, hbn⟩ : ∃ bn, bn = isName (l[j]'hlt).name := ⟨_, rfl⟩
      rw [← hbn] at c1
      have HBN := Lib.hid hbn
      clear hbn
      cases bn
      · have e1 := Lib.hid ((expFrom_form (most := most) hlt HBN.out.symm).symm.trans HE.out)
        go_wp2_with (first
        | (at_lookup; refine counts_lookup _ rfl _ _ rfl w.heap.size (j + 1) (ks ++ [(l[j]'hlt).name]) (hco1.kept hb2 (by omega)) (l[j]'hlt).name hsh.out rfl rfl (cn + 1) hcs.out.symm ?_)
        | (at_lookup; refine counts_lookup _ rfl _ _ rfl w.heap.size j ks (HC.out.alloc _) (l[j]'hlt).name hsh.out rfl rfl cn HCN.out ?_)
        | (at_mapUpdate; refine counts_update _ rfl _ _ _ rfl w.heap.size j ks (HC.out.alloc _) (l[j]'hlt).name hsh.out hkl.out hjl.out rfl rfl cn HCN.out rfl ?_; intro w1 hco1 hgrow1; obtain ⟨hf, hz1, hbb⟩ := made_kept hgrow1 hbk; have f0 := hf 0 _ rfl; have f1 := hf 1 _ rfl; clear hf)
        | (go_at_call 181; refine (c1.out _).mono ?_; rintro e w2 ⟨rfl, hb2⟩; obtain ⟨hc2, hf2⟩ := bcell hb2)
        | (go_at_call 217; refine (c2.out _).mono ?_; rintro e w' ⟨rfl, rfl⟩))
        go_ret
        exact ⟨ret_int e1.out, (HB.out.trans hbb).trans (hb2.mono (by omega))⟩
      by_cases hmm2 : 0 < cn
      · obtain ⟨k, hk, hkj, hkn⟩ := hmt.out.1 (hcp.out.1 hmm2)
        have e1 := Lib.hid ((expFrom_twice (most := most) hlt HBN.out.symm hk hkj hkn).symm.trans HE.out)
        have t1 : (1 : Int) < cn + 1 := by omega
        clear hmm2
        go_wp2_with (first
        | (at_lookup; refine counts_lookup _ rfl _ _ rfl w.heap.size (j + 1) (ks ++ [(l[j]'hlt).name]) (hco1.kept hb2 (by omega)) (l[j]'hlt).name hsh.out rfl rfl (cn + 1) hcs.out.symm ?_)
        | (at_lookup; refine counts_lookup _ rfl _ _ rfl w.heap.size j ks (HC.out.alloc _) (l[j]'hlt).name hsh.out rfl rfl cn HCN.out ?_)
        | (at_mapUpdate; refine counts_update _ rfl _ _ _ rfl w.heap.size j ks (HC.out.alloc _) (l[j]'hlt).name hsh.out hkl.out hjl.out rfl rfl cn HCN.out rfl ?_; intro w1 hco1 hgrow1; obtain ⟨hf, hz1, hbb⟩ := made_kept hgrow1 hbk; have f0 := hf 0 _ rfl; have f1 := hf 1 _ rfl; clear hf)
        | (go_at_call 181; refine (c1.out _).mono ?_; rintro e w2 ⟨rfl, hb2⟩; obtain ⟨hc2, hf2⟩ := bcell hb2)
        | (go_at_call 217; refine (c2.out _).mono ?_; rintro e w' ⟨rfl, rfl⟩))
        go_ret
        exact ⟨ret_int e1.out, (HB.out.trans hbb).trans (hb2.mono (by omega))⟩
      · have hno : ∀ k (hk : k < l.length), k < j → l[k].name ≠ l[j].name := fun k hk hkj e => hmm2 (hcp.out.2 (hmt.out.2 ⟨k, hk, hkj, e⟩))
        have HN := Lib.hid hno
        have t1 : decide ((1 : Int) < cn + 1) = false := by simp; omega
        clear hmm2 hno
        by_cases hr : 0 ≤ l[j].at_ ∧ l[j].at_ < most
        · have e1 := Lib.hid ((expFrom_next hlt HBN.out.symm HN.out hr).trans HE.out)
          have c2 := Lib.hid (fun W => within_t (l[j]'hlt).at_ 0 (most - 1) W hr.1 (by omega))
          clear hr
          go_wp2_with (first
        | (at_lookup; refine counts_lookup _ rfl _ _ rfl w.heap.size (j + 1) (ks ++ [(l[j]'hlt).name]) (hco1.kept hb2 (by omega)) (l[j]'hlt).name hsh.out rfl rfl (cn + 1) hcs.out.symm ?_)
        | (at_lookup; refine counts_lookup _ rfl _ _ rfl w.heap.size j ks (HC.out.alloc _) (l[j]'hlt).name hsh.out rfl rfl cn HCN.out ?_)
        | (at_mapUpdate; refine counts_update _ rfl _ _ _ rfl w.heap.size j ks (HC.out.alloc _) (l[j]'hlt).name hsh.out hkl.out hjl.out rfl rfl cn HCN.out rfl ?_; intro w1 hco1 hgrow1; obtain ⟨hf, hz1, hbb⟩ := made_kept hgrow1 hbk; have f0 := hf 0 _ rfl; have f1 := hf 1 _ rfl; clear hf)
        | (go_at_call 181; refine (c1.out _).mono ?_; rintro e w2 ⟨rfl, hb2⟩; obtain ⟨hc2, hf2⟩ := bcell hb2)
        | (go_at_call 217; refine (c2.out _).mono ?_; rintro e w' ⟨rfl, rfl⟩))
          go_roundw
          case rel => exact ⟨j + 1, by omega, by go_num, e1.out, by rw [hsm.out]; exact hco1.kept hb2 (by omega), (HB.out.trans hbb).trans (hb2.mono (by omega))⟩
          case measure => (simp [intOf]; try omega)
        · have e1 := Lib.hid ((expFrom_range hlt HBN.out.symm HN.out (by omega)).symm.trans HE.out)
          have c2 := Lib.hid (fun W => within_f (l[j]'hlt).at_ 0 (most - 1) W (by omega))
          clear hr
          go_wp2_with (first
        | (at_lookup; refine counts_lookup _ rfl _ _ rfl w.heap.size (j + 1) (ks ++ [(l[j]'hlt).name]) (hco1.kept hb2 (by omega)) (l[j]'hlt).name hsh.out rfl rfl (cn + 1) hcs.out.symm ?_)
        | (at_lookup; refine counts_lookup _ rfl _ _ rfl w.heap.size j ks (HC.out.alloc _) (l[j]'hlt).name hsh.out rfl rfl cn HCN.out ?_)
        | (at_mapUpdate; refine counts_update _ rfl _ _ _ rfl w.heap.size j ks (HC.out.alloc _) (l[j]'hlt).name hsh.out hkl.out hjl.out rfl rfl cn HCN.out rfl ?_; intro w1 hco1 hgrow1; obtain ⟨hf, hz1, hbb⟩ := made_kept hgrow1 hbk; have f0 := hf 0 _ rfl; have f1 := hf 1 _ rfl; clear hf)
        | (go_at_call 181; refine (c1.out _).mono ?_; rintro e w2 ⟨rfl, hb2⟩; obtain ⟨hc2, hf2⟩ := bcell hb2)
        | (go_at_call 217; refine (c2.out _).mono ?_; rintro e w' ⟨rfl, rfl⟩))
          go_ret
          exact ⟨ret_int e1.out, (HB.out.trans hbb).trans (hb2.mono (by omega))⟩
    · have e1 := Lib.hid ((expFrom_end (most := most) hlt).symm.trans HE.out)
      go_wp2_with fail
      go_ret
      exact ⟨ret_int e1.out, HB.out⟩

end Go.Proofs.YtjiedaialianmaaGreat
end

section

namespace Go.Proofs.YtjiedaialianmaaGreat
open Go.RowKit Go.Maps Go.WideMaps

def verOk (a b : Int) : Bool := decide (0 ≤ a) && decide (a ≤ 255) && (decide (0 ≤ b) && decide (b ≤ 255))
set_option maxHeartbeats 400000 in
theorem version_any (a b : Int) (w : World) :
    Calls Tryz.prog 182 #[.int .i64 a, .int .i64 b] w fun e w' => e = .returned (.bool (verOk a b)) ∧ w = w' := by
  by_cases h : 0 ≤ a ∧ a ≤ 255
  · have c1 := Lib.hid (fun W => within_t a 0 255 W h.1 h.2)
    have c2 := Lib.hid (fun W => within_any b 0 255 W)
    have e1 : verOk a b = (decide (0 ≤ b) && decide (b ≤ 255)) := by unfold verOk; simp [h.1, h.2]
    rw [e1]; clear e1 h
    go_enter Tryz.func182, Tryz.ntmps182
    go_wp2_with (first | (go_at_call 217; (with_reducible refine (c1.out _).mono ?_); rintro e w' ⟨rfl, rfl⟩) | (go_at_call 217; (with_reducible refine (c2.out _).mono ?_); rintro e w' ⟨rfl, rfl⟩))
    all_goals (go_ret; exact ⟨rfl, rfl⟩)
  · have c1 := Lib.hid (fun W => within_f a 0 255 W (by omega))
    have e1 : verOk a b = false := by unfold verOk; simp; omega
    rw [e1]; clear e1 h
    go_enter Tryz.func182, Tryz.ntmps182
    go_wp2_with (first | (go_at_call 217; (with_reducible refine (c1.out _).mono ?_); rintro e w' ⟨rfl, rfl⟩))
    all_goals (go_ret; exact ⟨rfl, rfl⟩)

theorem impErr_eq (md nm : ByteArray) (mj mn : Int) : impErr ⟨md, nm, mj, mn⟩ = if isName md = true then (if isName nm = true then (if verOk mj mn = true then 0 else 3) else 1) else 1 := by
  unfold impErr verOk
  cases isName md <;> cases isName nm <;> simp
  (repeat' split) <;> first | rfl | omega

set_option maxRecDepth 100000 in
set_option maxHeartbeats 1000000 in
theorem Import_any (md nm : ByteArray) (mj mn : Int) (w : World) (h1 : md.size ≤ big) (h2 : nm.size ≤ big) :
    Calls Tryz.prog 185 #[.agg #[.string md, .string nm, .int .i64 mj, .int .i64 mn]] w fun e w' => e = .returned (.int .i64 (impErr ⟨md, nm, mj, mn⟩)) ∧ Below w.heap.size w w' := by
  rw [impErr_eq]
  have c1 := Lib.hid (fun W => Name_any md W h1)
  have c2 := Lib.hid (fun W => Name_any nm W h2)
  have c3 := Lib.hid (fun W => version_any mj mn W)
  have HB := Lib.hid ((Below.refl w.heap.size w).alloc (Nat.le_refl _) (.cells #[.string md, .string nm, .int .i64 mj, .int .i64 mn] 173))
  clear h1 h2
  generalize isName md = a at *
  generalize isName nm = b at *
  generalize verOk mj mn = c at *
  cases a
  · go_enter Tryz.func185, Tryz.ntmps185
    go_wp2_with (first | (go_at_call 181; (with_reducible refine (c1.out _).mono ?_); rintro e w1 ⟨rfl, hb1⟩; obtain ⟨hc1, hf1⟩ := bcell hb1; have hz1 : w.heap.size < w1.heap.size := by have := hb1.size; (try simp at this); omega))
    go_ret
    exact ⟨rfl, HB.out.trans (hb1.mono (by simp))⟩
  cases b
  · go_enter Tryz.func185, Tryz.ntmps185
    go_wp2_with (first | (go_at_call 181; (with_reducible refine (c1.out _).mono ?_); rintro e w1 ⟨rfl, hb1⟩; obtain ⟨hc1, hf1⟩ := bcell hb1; have hz1 : w.heap.size < w1.heap.size := by have := hb1.size; (try simp at this); omega) | (go_at_call 181; (with_reducible refine (c2.out _).mono ?_); rintro e w2 ⟨rfl, hb2⟩; obtain ⟨hc2, hf2⟩ := bcell hb2; have hz2 : w.heap.size < w2.heap.size := by have := hb2.size; (try simp at this); omega))
    go_ret
    exact ⟨rfl, (HB.out.trans (hb1.mono (by simp))).trans (hb2.mono (by omega))⟩
  cases c
  all_goals
    go_enter Tryz.func185, Tryz.ntmps185
    go_wp2_with (first | (go_at_call 181; (with_reducible refine (c1.out _).mono ?_); rintro e w1 ⟨rfl, hb1⟩; obtain ⟨hc1, hf1⟩ := bcell hb1; have hz1 : w.heap.size < w1.heap.size := by have := hb1.size; (try simp at this); omega) | (go_at_call 181; (with_reducible refine (c2.out _).mono ?_); rintro e w2 ⟨rfl, hb2⟩; obtain ⟨hc2, hf2⟩ := bcell hb2; have hz2 : w.heap.size < w2.heap.size := by have := hb2.size; (try simp at this); omega) | (go_at_call 182; (with_reducible refine (c3.out _).mono ?_); rintro e w' ⟨rfl, rfl⟩))
    go_ret
    exact ⟨rfl, (HB.out.trans (hb1.mono (by simp))).trans (hb2.mono (by omega))⟩

set_option maxRecDepth 100000 in
set_option maxHeartbeats 1000000 in
theorem CheckImport_any (md nm : ByteArray) (mj mn : Int) (w : World) (h1 : md.size ≤ big) (h2 : nm.size ≤ big) :
    Calls Tryz.prog 178 #[.agg #[.string md, .string nm, .int .i64 mj, .int .i64 mn]] w fun e w' => e = .returned (.int .i64 (impErr ⟨md, nm, mj, mn⟩)) ∧ Below w.heap.size w w' := by
  rw [impErr_eq]
  have c1 := Lib.hid (fun W => IsName_any md W h1)
  have c2 := Lib.hid (fun W => IsName_any nm W h2)
  have c3 := Lib.hid (fun W => between_any mj 0 255 W)
  have c4 := Lib.hid (fun W => between_any mn 0 255 W)
  have HB := Lib.hid ((Below.refl w.heap.size w).alloc (Nat.le_refl _) (.cells #[.string md, .string nm, .int .i64 mj, .int .i64 mn] 173))
  unfold verOk
  clear h1 h2
  generalize isName md = a at *
  generalize isName nm = b at *
  generalize (decide (0 ≤ mj) && decide (mj ≤ 255)) = c at *
  generalize (decide (0 ≤ mn) && decide (mn ≤ 255)) = d at *
  cases a
  · go_enter Tryz.func178, Tryz.ntmps178
    go_wp2_with (first | (go_at_call 142; (with_reducible refine (c1.out _).mono ?_); rintro e w' ⟨rfl, rfl⟩))
    go_ret
    exact ⟨rfl, HB.out⟩
  cases b
  · go_enter Tryz.func178, Tryz.ntmps178
    go_wp2_with (first | (go_at_call 142; (with_reducible refine (c1.out _).mono ?_); rintro e w' ⟨rfl, rfl⟩) | (go_at_call 142; (with_reducible refine (c2.out _).mono ?_); rintro e w' ⟨rfl, rfl⟩))
    go_ret
    exact ⟨rfl, HB.out⟩
  cases c
  · go_enter Tryz.func178, Tryz.ntmps178
    go_wp2_with (first | (go_at_call 142; (with_reducible refine (c1.out _).mono ?_); rintro e w' ⟨rfl, rfl⟩) | (go_at_call 142; (with_reducible refine (c2.out _).mono ?_); rintro e w' ⟨rfl, rfl⟩) | (go_at_call 75; (with_reducible refine (c3.out _).mono ?_); rintro e w' ⟨rfl, rfl⟩))
    go_ret
    exact ⟨rfl, HB.out⟩
  cases d
  all_goals
    go_enter Tryz.func178, Tryz.ntmps178
    go_wp2_with (first | (go_at_call 142; (with_reducible refine (c1.out _).mono ?_); rintro e w' ⟨rfl, rfl⟩) | (go_at_call 142; (with_reducible refine (c2.out _).mono ?_); rintro e w' ⟨rfl, rfl⟩) | (go_at_call 75; (with_reducible refine (c3.out _).mono ?_); rintro e w' ⟨rfl, rfl⟩) | (go_at_call 75; (with_reducible refine (c4.out _).mono ?_); rintro e w' ⟨rfl, rfl⟩))
    go_ret
    exact ⟨rfl, HB.out⟩

theorem split_at_space {a c b d : List UInt8} (ha : (32 : UInt8) ∉ a) (hc : (32 : UInt8) ∉ c) (h : a ++ [32] ++ b = c ++ [32] ++ d) : a = c ∧ b = d := by
  induction a generalizing c with
  | nil => cases c with
    | nil => simp at h; exact ⟨rfl, h⟩
    | cons y c => simp at h hc; exact absurd h.1 hc.1
  | cons x a ih => cases c with
    | nil => simp at h ha; exact absurd h.1.symm ha.1
    | cons y c =>
      simp only [List.cons_append, List.cons.injEq] at h
      simp only [List.mem_cons, not_or] at ha hc
      obtain ⟨e1, e2⟩ := ih ha.2 hc.2 h.2
      exact ⟨by rw [h.1, e1], e2⟩
theorem no_space {s : ByteArray} (h : isName s = true) : (32 : UInt8) ∉ s.data.toList := by
  unfold isName at h
  simp only [Bool.and_eq_true] at h
  intro hm
  have := List.all_eq_true.1 h.2 _ hm
  simp [okByte] at this
def keyBytes (x : Imp) : ByteArray := x.mod ++ ⟨#[32]⟩ ++ x.name
theorem key_inj {x y : Imp} (hx : isName x.mod = true) (hy : isName y.mod = true) (h : keyBytes x = keyBytes y) : x.mod = y.mod ∧ x.name = y.name := by
  have h1 : (keyBytes x).data.toList = (keyBytes y).data.toList := by rw [h]
  unfold keyBytes at h1
  rw [ba_append, ba_append, ba_append, ba_append] at h1
  obtain ⟨e1, e2⟩ := split_at_space (no_space hx) (no_space hy) h1
  exact ⟨ba_eq e1, ba_eq e2⟩
theorem imp_named {x : Imp} (h : impErr x ≠ 1) : isName x.mod = true := by
  unfold impErr at h
  cases hn : isName x.mod
  · simp [hn] at h
  · rfl

set_option maxHeartbeats 2000000 in
set_option maxRecDepth 100000 in
theorem imports_any (A : Option Addr) (c : Nat) (l : List Imp) (w : World) (h : ImpsOk w A l) :
    Calls Tryz.prog 183 #[.slice A l.length c] w fun e w' => e = .returned (.int .i64 (impsErr [] l)) ∧ Below w.heap.size w w' := by
  obtain ⟨hr, hl, hs⟩ := h
  unfold big at hl
  have HR := Lib.hid hr
  have HS := Lib.hid hs
  clear hr hs
  have hmm := @run_makeMap Tryz.prog
  go_enter Tryz.func183, Tryz.ntmps183
  go_wp2_with fail
  go_loopw [10] (fun i wr => ∃ j : Nat, j ≤ l.length ∧ i = .int .i64 j ∧ impsFrom l j = impsErr [] l ∧ (∀ k (hk : k < l.length), k < j → isName l[k].mod = true) ∧ Counts wr w.heap.size j ((l.take j).map keyBytes) ∧ Below w.heap.size w wr) (fun i _ => l.length - (intOf i).toNat)
  case atStart => exact ⟨0, by omega, rfl, rfl, by omega, Counts.made _, (Below.refl _ _).alloc (Nat.le_refl _) _⟩
  case round =>
    obtain ⟨j, hj, rfl, hE, hN, hco, hb⟩ := hrel
    have HE := Lib.hid hE
    have HB := Lib.hid hb
    have HC := Lib.hid hco
    have HNM := Lib.hid hN
    clear hE hco hN
    by_cases hlt : j < l.length
    · have hlt' : (j : Int) < l.length := by omega
      obtain ⟨ad, rfl, hab, h0, h1, h2, h3⟩ := imp_at HR.out hb j hlt
      obtain ⟨hsz1, hsz2⟩ := HS.out l[j] (List.getElem_mem _)
      have hsm := Lib.hid (take_map_snoc l keyBytes j hlt)
      have hmt := Lib.hid (mem_take_map l keyBytes j (by omega) (keyBytes l[j]))
      obtain ⟨ks, hks⟩ : ∃ ks, ks = (l.take j).map keyBytes := ⟨_, rfl⟩
      rw [← hks] at hsm hmt HC
      have hkl := Lib.hid (show ks.length ≤ big by rw [hks]; simp; unfold big; omega)
      have hjl := Lib.hid (show j ≤ big by unfold big; omega)
      have hbk : w.heap.size < wr.heap.size := HC.out.lt
      have hz3 : ((l[j]'hlt).mod ++ ⟨#[32]⟩).size = (l[j]'hlt).mod.size + 1 := by rw [ByteArray.size_append]; rfl
      obtain ⟨ky, hky⟩ : ∃ ky, ky = (l[j]'hlt).mod ++ ⟨#[32]⟩ ++ (l[j]'hlt).name := ⟨_, rfl⟩
      have ha1 : ∀ W, (Op.stringOp .add (l[j]'hlt).mod ⟨#[32]⟩).run Tryz.prog W = .ok (.string ((l[j]'hlt).mod ++ ⟨#[32]⟩)) W := fun W => run_string_add_sum _ _ _ (by show _ + 1 ≤ _; unfold big at hsz1; omega)
      have ha2 : ∀ W, (Op.stringOp .add ((l[j]'hlt).mod ++ ⟨#[32]⟩) (l[j]'hlt).name).run Tryz.prog W = .ok (.string ky) W := fun W => by rw [hky]; exact run_string_add_sum _ _ _ (by unfold big at hsz1 hsz2; omega)
      have hsh := Lib.hid (show ky.size ≤ huge by rw [hky, ByteArray.size_append, hz3]; unfold huge; unfold big at hsz1 hsz2; omega)
      have hkk : ky = keyBytes l[j] := hky
      rw [← hkk] at hsm hmt
      obtain ⟨cn, hcn⟩ : ∃ cn, cn = cnt ks ky := ⟨_, rfl⟩
      have q2 : wrap64 (cn + 1) = cn + 1 := by rw [hcn]; exact cnt_wrap hkl.out (by unfold big; omega)
      have hcp := Lib.hid (cnt_pos (ks := ks) (s := ky))
      have hcs := Lib.hid (cnt_snoc ks ky ky)
      rw [← hcn] at hcp hcs
      rw [if_pos rfl] at hcs
      have HCN := Lib.hid hcn
      have HKK := Lib.hid hkk
      have hte : impErr l[j] ≠ 1 → (0 < cn ↔ ∃ k, ∃ hk : k < l.length, k < j ∧ (l[k].mod = l[j].mod ∧ l[k].name = l[j].name)) := fun hne => by
        rw [hcp.out, hmt.out]
        constructor
        · rintro ⟨k, hk, hkj, e⟩
          exact ⟨k, hk, hkj, key_inj (HNM.out k hk hkj) (imp_named hne) (e.trans hkk)⟩
        · rintro ⟨k, hk, hkj, e1, e2⟩
          exact ⟨k, hk, hkj, by rw [hkk]; unfold keyBytes; rw [e1, e2]⟩
      have HTE := Lib.hid hte
      have c1 := Lib.hid (fun W => Import_any (l[j]'hlt).mod (l[j]'hlt).name (l[j]'hlt).major (l[j]'hlt).minor W hsz1 hsz2)
      obtain ⟨er, her⟩ : ∃ er, er = impErr (l[j]'hlt) := ⟨_, rfl⟩
      have her' : er = impErr ⟨(l[j]'hlt).mod, (l[j]'hlt).name, (l[j]'hlt).major, (l[j]'hlt).minor⟩ := her
      rw [← her'] at c1
      have HER := Lib.hid her
      clear hb hks hcn hky hkk hte her her' hz3
      rcases impErr_cases (l[j]'hlt) with h5 | h5 | h5
      all_goals
        obtain rfl := HER.out.trans h5
        have H5 := Lib.hid h5
        clear h5 HER
      · by_cases hmm2 : 0 < cn
        · obtain ⟨k, hk, hkj, hkn⟩ := (HTE.out (by rw [H5.out]; omega)).1 hmm2
          have e1 := Lib.hid ((impsFrom_twice hlt (by rw [H5.out]; omega) hk hkj hkn).symm.trans HE.out)
          have t1 : (1 : Int) < cn + 1 := by omega
          clear hmm2 hkn
          go_wp2_with (first
        | (at_lookup; refine counts_lookup _ rfl _ _ rfl w.heap.size (j + 1) (ks ++ [ky]) (hco1.kept hb2 (by omega)) ky hsh.out rfl rfl (cn + 1) hcs.out.symm ?_)
        | (at_lookup; refine counts_lookup _ rfl _ _ rfl w.heap.size j ks (HC.out.alloc _) ky hsh.out rfl rfl cn HCN.out ?_)
        | (at_mapUpdate; refine counts_update _ rfl _ _ _ rfl w.heap.size j ks (HC.out.alloc _) ky hsh.out hkl.out hjl.out rfl rfl cn HCN.out rfl ?_; intro w1 hco1 hgrow1; obtain ⟨hf, hz1, hbb⟩ := made_kept hgrow1 hbk; have f0 := hf 0 _ rfl; have f1 := hf 1 _ rfl; have f2 := hf 2 _ rfl; have f3 := hf 3 _ rfl; clear hf)
        | (go_at_call 185; refine (c1.out _).mono ?_; rintro e w2 ⟨rfl, hb2⟩; obtain ⟨hc2, hf2⟩ := bcell hb2))
          go_ret
          exact ⟨ret_int e1.out, (HB.out.trans hbb).trans (hb2.mono (by omega))⟩
        · have hno := Lib.hid (fun k (hk : k < l.length) (hkj : k < j) e => hmm2 ((HTE.out (by rw [H5.out]; omega)).2 ⟨k, hk, hkj, e⟩))
          have e1 := Lib.hid ((impsFrom_next hlt H5.out hno.out).trans HE.out)
          have t1 : decide ((1 : Int) < cn + 1) = false := by simp; omega
          clear hmm2
          go_wp2_with (first
        | (at_lookup; refine counts_lookup _ rfl _ _ rfl w.heap.size (j + 1) (ks ++ [ky]) (hco1.kept hb2 (by omega)) ky hsh.out rfl rfl (cn + 1) hcs.out.symm ?_)
        | (at_lookup; refine counts_lookup _ rfl _ _ rfl w.heap.size j ks (HC.out.alloc _) ky hsh.out rfl rfl cn HCN.out ?_)
        | (at_mapUpdate; refine counts_update _ rfl _ _ _ rfl w.heap.size j ks (HC.out.alloc _) ky hsh.out hkl.out hjl.out rfl rfl cn HCN.out rfl ?_; intro w1 hco1 hgrow1; obtain ⟨hf, hz1, hbb⟩ := made_kept hgrow1 hbk; have f0 := hf 0 _ rfl; have f1 := hf 1 _ rfl; have f2 := hf 2 _ rfl; have f3 := hf 3 _ rfl; clear hf)
        | (go_at_call 185; refine (c1.out _).mono ?_; rintro e w2 ⟨rfl, hb2⟩; obtain ⟨hc2, hf2⟩ := bcell hb2))
          go_roundw
          case rel => exact ⟨j + 1, by omega, by go_num, e1.out, fun k hk hkj => by rcases Nat.lt_succ_iff_lt_or_eq.1 hkj with h | rfl; exact HNM.out k hk h; exact imp_named (by rw [H5.out]; omega), by rw [hsm.out]; exact hco1.kept hb2 (by omega), (HB.out.trans hbb).trans (hb2.mono (by omega))⟩
          case measure => (simp [intOf]; try omega)
      · have e1 := Lib.hid ((impsFrom_form hlt H5.out).symm.trans HE.out)
        go_wp2_with (first
        | (at_lookup; refine counts_lookup _ rfl _ _ rfl w.heap.size (j + 1) (ks ++ [ky]) (hco1.kept hb2 (by omega)) ky hsh.out rfl rfl (cn + 1) hcs.out.symm ?_)
        | (at_lookup; refine counts_lookup _ rfl _ _ rfl w.heap.size j ks (HC.out.alloc _) ky hsh.out rfl rfl cn HCN.out ?_)
        | (at_mapUpdate; refine counts_update _ rfl _ _ _ rfl w.heap.size j ks (HC.out.alloc _) ky hsh.out hkl.out hjl.out rfl rfl cn HCN.out rfl ?_; intro w1 hco1 hgrow1; obtain ⟨hf, hz1, hbb⟩ := made_kept hgrow1 hbk; have f0 := hf 0 _ rfl; have f1 := hf 1 _ rfl; have f2 := hf 2 _ rfl; have f3 := hf 3 _ rfl; clear hf)
        | (go_at_call 185; refine (c1.out _).mono ?_; rintro e w2 ⟨rfl, hb2⟩; obtain ⟨hc2, hf2⟩ := bcell hb2))
        go_ret
        exact ⟨ret_int e1.out, (HB.out.trans hbb).trans (hb2.mono (by omega))⟩
      · by_cases hmm2 : 0 < cn
        · obtain ⟨k, hk, hkj, hkn⟩ := (HTE.out (by rw [H5.out]; omega)).1 hmm2
          have e1 := Lib.hid ((impsFrom_twice hlt (by rw [H5.out]; omega) hk hkj hkn).symm.trans HE.out)
          have t1 : (1 : Int) < cn + 1 := by omega
          clear hmm2 hkn
          go_wp2_with (first
        | (at_lookup; refine counts_lookup _ rfl _ _ rfl w.heap.size (j + 1) (ks ++ [ky]) (hco1.kept hb2 (by omega)) ky hsh.out rfl rfl (cn + 1) hcs.out.symm ?_)
        | (at_lookup; refine counts_lookup _ rfl _ _ rfl w.heap.size j ks (HC.out.alloc _) ky hsh.out rfl rfl cn HCN.out ?_)
        | (at_mapUpdate; refine counts_update _ rfl _ _ _ rfl w.heap.size j ks (HC.out.alloc _) ky hsh.out hkl.out hjl.out rfl rfl cn HCN.out rfl ?_; intro w1 hco1 hgrow1; obtain ⟨hf, hz1, hbb⟩ := made_kept hgrow1 hbk; have f0 := hf 0 _ rfl; have f1 := hf 1 _ rfl; have f2 := hf 2 _ rfl; have f3 := hf 3 _ rfl; clear hf)
        | (go_at_call 185; refine (c1.out _).mono ?_; rintro e w2 ⟨rfl, hb2⟩; obtain ⟨hc2, hf2⟩ := bcell hb2))
          go_ret
          exact ⟨ret_int e1.out, (HB.out.trans hbb).trans (hb2.mono (by omega))⟩
        · have hno := Lib.hid (fun k (hk : k < l.length) (hkj : k < j) e => hmm2 ((HTE.out (by rw [H5.out]; omega)).2 ⟨k, hk, hkj, e⟩))
          have e1 := Lib.hid ((impsFrom_range hlt H5.out hno.out).symm.trans HE.out)
          have t1 : decide ((1 : Int) < cn + 1) = false := by simp; omega
          clear hmm2
          go_wp2_with (first
        | (at_lookup; refine counts_lookup _ rfl _ _ rfl w.heap.size (j + 1) (ks ++ [ky]) (hco1.kept hb2 (by omega)) ky hsh.out rfl rfl (cn + 1) hcs.out.symm ?_)
        | (at_lookup; refine counts_lookup _ rfl _ _ rfl w.heap.size j ks (HC.out.alloc _) ky hsh.out rfl rfl cn HCN.out ?_)
        | (at_mapUpdate; refine counts_update _ rfl _ _ _ rfl w.heap.size j ks (HC.out.alloc _) ky hsh.out hkl.out hjl.out rfl rfl cn HCN.out rfl ?_; intro w1 hco1 hgrow1; obtain ⟨hf, hz1, hbb⟩ := made_kept hgrow1 hbk; have f0 := hf 0 _ rfl; have f1 := hf 1 _ rfl; have f2 := hf 2 _ rfl; have f3 := hf 3 _ rfl; clear hf)
        | (go_at_call 185; refine (c1.out _).mono ?_; rintro e w2 ⟨rfl, hb2⟩; obtain ⟨hc2, hf2⟩ := bcell hb2))
          go_ret
          exact ⟨ret_int e1.out, (HB.out.trans hbb).trans (hb2.mono (by omega))⟩
    · have e1 := Lib.hid ((impsFrom_end hlt).symm.trans HE.out)
      go_wp2_with fail
      go_ret
      exact ⟨ret_int e1.out, HB.out⟩

end Go.Proofs.YtjiedaialianmaaGreat
end

section

namespace Go.Proofs.YtjiedaialianmaaGreat
open Go.RowKit

theorem patErr_kind {z ni e : Int} {p : Pat} (h : widthOf p.kind = 0) : patErr z ni e p = 7 := by unfold patErr; rw [if_pos h]
theorem patErr_range {z ni e : Int} {p : Pat} (h : widthOf p.kind ≠ 0) (h1 : p.sym < -1 ∨ ni ≤ p.sym ∨ p.add < 0 ∨ 65535 < p.add ∨ p.at_ < 0 ∨ z - widthOf p.kind < p.at_) : patErr z ni e p = 3 := by
  unfold patErr; rw [if_neg h, if_pos h1]
theorem patErr_state {z ni e : Int} {p : Pat} (h : widthOf p.kind ≠ 0) (h1 : ¬ (p.sym < -1 ∨ ni ≤ p.sym ∨ p.add < 0 ∨ 65535 < p.add ∨ p.at_ < 0 ∨ z - widthOf p.kind < p.at_)) (h2 : p.at_ < e) : patErr z ni e p = 4 := by
  unfold patErr; rw [if_neg h, if_neg h1, if_pos h2]
theorem patErr_ok {z ni e : Int} {p : Pat} (h : widthOf p.kind ≠ 0) (h1 : ¬ (p.sym < -1 ∨ ni ≤ p.sym ∨ p.add < 0 ∨ 65535 < p.add ∨ p.at_ < 0 ∨ z - widthOf p.kind < p.at_)) (h2 : ¬ p.at_ < e) : patErr z ni e p = 0 := by
  unfold patErr; rw [if_neg h, if_neg h1, if_neg h2]
theorem width_rng_ (k : Int) : widthOf k = 0 ∨ (2 ≤ widthOf k ∧ widthOf k ≤ 4) := by
  rcases widthOf_cases k with h | h | h | h | h | h <;> omega

set_option maxHeartbeats 4000000 in
set_option maxRecDepth 100000 in
theorem patches_any (nm tx : ByteArray) (mj mn : Int) (eA iA pA : Option Addr) (el eC il iC pC : Nat) (l : List Pat) (w : World) (h : PatsOk w pA l) (ht : tx.size ≤ big) (hi : il ≤ big) :
    Calls Tryz.prog 184 #[.agg #[.string nm, .int .i64 mj, .int .i64 mn, .string tx, .slice eA el eC, .slice iA il iC, .slice pA l.length pC]] w fun e w' =>
      e = .returned (.int .i64 (patsErr tx.size il 0 l)) ∧ Below w.heap.size w w' := by
  obtain ⟨hr, hl⟩ := h
  unfold big at hl ht hi
  have HR := Lib.hid hr
  clear hr
  obtain ⟨w0, hw0⟩ : ∃ w0, w0 = w.alloc (.cells #[.string nm, .int .i64 mj, .int .i64 mn, .string tx, .slice eA el eC, .slice iA il iC, .slice pA l.length pC] 70) := ⟨_, rfl⟩
  have H0 := Lib.hid (show Below w.heap.size w w0 from hw0 ▸ (Below.refl _ _).alloc (Nat.le_refl _) _)
  have k3 := Lib.hid (show w0.cell? ⟨w.heap.size, 3, none⟩ = some (.string tx) by rw [hw0, World.cell?_alloc_new]; rfl)
  have k5 := Lib.hid (show w0.cell? ⟨w.heap.size, 5, none⟩ = some (.slice iA il iC) by rw [hw0, World.cell?_alloc_new]; rfl)
  have k6 := Lib.hid (show w0.cell? ⟨w.heap.size, 6, none⟩ = some (.slice pA l.length pC) by rw [hw0, World.cell?_alloc_new]; rfl)
  have hz0 := Lib.hid (show w0.heap.size = w.heap.size + 1 by rw [hw0]; simp)
  have HW := Lib.hid hw0
  clear hw0
  go_enter Tryz.func184, Tryz.ntmps184
  go_wp2_with fail
  rw [← HW.out]
  clear HW
  go_loopw [3, 10] (fun e i wr => ∃ (j : Nat) (en : Int), j ≤ l.length ∧ i = .int .i64 j ∧ e = .int .i64 en ∧ 0 ≤ en ∧ en ≤ 140737488351236 ∧ patsFrom tx.size il l j en = patsErr tx.size il 0 l ∧ Below (w.heap.size + 1) w0 wr) (fun _ i _ => l.length - (intOf i).toNat)
  case atStart => exact ⟨0, 0, by omega, rfl, rfl, by omega, by omega, rfl, Below.refl _ _⟩
  case round =>
    obtain ⟨j, en, hj, rfl, rfl, he0, he1, hE, hb⟩ := hrel
    have HE := Lib.hid hE
    have HB := Lib.hid hb
    clear hE
    have g3 := (hb.cell (p := ⟨w.heap.size, 3, none⟩) (by simp)).trans k3.out
    have g5 := (hb.cell (p := ⟨w.heap.size, 5, none⟩) (by simp)).trans k5.out
    have hzr : w.heap.size < wr.heap.size := by have := hb.size; have := hz0.out; omega
    by_cases hlt : j < l.length
    · have hlt' : (j : Int) < l.length := by omega
      obtain ⟨ad, rfl, hab, h0, h1, h2, h3⟩ := pat_at HR.out (H0.out.trans (hb.mono (by omega))) j hlt
      clear hb
      obtain ⟨p, hp⟩ : ∃ p, p = l[j] := ⟨_, rfl⟩
      have he := Lib.hid (fun h => (patsFrom_err (z := tx.size) (ni := il) (e := en) hlt h).symm.trans HE.out)
      have hx := Lib.hid (fun h => (patsFrom_next (z := tx.size) (ni := il) (e := en) hlt h).trans HE.out)
      rw [← hp] at h0 h1 h2 h3 he hx
      have HP := Lib.hid hp
      clear hp
      obtain ⟨kd, at_, sy, ad_⟩ := p
      simp only at h0 h1 h2 h3
      obtain ⟨k, hk⟩ : ∃ k, k = widthOf kd := ⟨_, rfl⟩
      have c1 := Lib.hid (fun W => MWidth_any kd W)
      rw [← hk] at c1
      have hkr := width_rng_ kd
      rw [← hk] at hkr
      have HK := Lib.hid hk
      clear hk
      have qk : wrap64 ((il : Int) - 1) = il - 1 := IntWalk.wrap64_in _ (by omega)
      have qz : wrap64 ((tx.size : Int) - k) = tx.size - k := IntWalk.wrap64_in _ (by omega)
      rcases hkr with h5 | ⟨h5, h6⟩
      · obtain rfl := h5
        have e1 := Lib.hid (patErr_kind (z := tx.size) (ni := il) (e := en) (p := ⟨kd, at_, sy, ad_⟩) HK.out.symm)
        have e2 := Lib.hid ((e1.out.symm).trans (he.out (by rw [e1.out]; omega)))
        go_wp2_with (first | (go_at_call 235; (with_reducible refine (c1.out _).mono ?_); rintro e w2 ⟨rfl, hb2⟩; obtain ⟨hc2, hf2⟩ := bcell hb2; have hz2 : w.heap.size < w2.heap.size := by have := hb2.size; (try simp at this); omega))
        go_ret
        exact ⟨ret_int e2.out, H0.out.trans ((HB.out.mono (by omega)).trans (((Below.refl _ _).alloc (by omega) _).trans (hb2.mono (by simp; omega))))⟩
      · have hk0 : (k == 0) = false := by simp; omega
        have hkn := Lib.hid (show widthOf kd ≠ 0 by rw [← HK.out]; omega)
        have hk64 : wrap64 (at_ + k) = at_ + k ∨ at_ < 0 ∨ (tx.size : Int) - k < at_ := by
          by_cases a0 : at_ < 0
          · exact .inr (.inl a0)
          · by_cases a1 : (tx.size : Int) - k < at_
            · exact .inr (.inr a1)
            · exact .inl (IntWalk.wrap64_in _ (by omega))
        have hrng := Lib.hid (fun h1 => (patErr_range (z := tx.size) (ni := il) (e := en) (p := ⟨kd, at_, sy, ad_⟩) hkn.out h1))
        have hst := Lib.hid (fun h1 h2 => (patErr_state (z := tx.size) (ni := il) (e := en) (p := ⟨kd, at_, sy, ad_⟩) hkn.out h1 h2))
        have hok := Lib.hid (fun h1 h2 => (patErr_ok (z := tx.size) (ni := il) (e := en) (p := ⟨kd, at_, sy, ad_⟩) hkn.out h1 h2))
        simp only [← HK.out] at hrng hst hok
        by_cases b1 : -1 ≤ sy ∧ sy ≤ il - 1
        · have c3 := Lib.hid (fun W => within_t sy (-1) (il - 1) W b1.1 b1.2)
          by_cases b2 : 0 ≤ ad_ ∧ ad_ ≤ 65535
          · have c4 := Lib.hid (fun W => within_t ad_ 0 65535 W b2.1 b2.2)
            by_cases b3 : at_ < 0
            · have e1 := Lib.hid (hrng.out (by omega))
              have e2 := Lib.hid ((e1.out.symm).trans (he.out (by rw [e1.out]; omega)))
              clear b1 b2
              go_wp2_with (first | (go_at_call 235; (with_reducible refine (c1.out _).mono ?_); rintro e w2 ⟨rfl, hb2⟩; obtain ⟨hc2, hf2⟩ := bcell hb2; have hz2 : w.heap.size < w2.heap.size := by have := hb2.size; (try simp at this); omega) | (go_at_call 217; (with_reducible refine (c3.out _).mono ?_); rintro e w' ⟨rfl, rfl⟩) | (go_at_call 217; (with_reducible refine (c4.out _).mono ?_); rintro e w' ⟨rfl, rfl⟩))
              go_ret
              exact ⟨ret_int e2.out, H0.out.trans ((HB.out.mono (by omega)).trans (((Below.refl _ _).alloc (by omega) _).trans (hb2.mono (by simp; omega))))⟩
            · have b3' : decide (at_ < 0) = false := by simp; omega
              by_cases b4 : (tx.size : Int) - k < at_
              · have e1 := Lib.hid (hrng.out (by omega))
                have e2 := Lib.hid ((e1.out.symm).trans (he.out (by rw [e1.out]; omega)))
                clear b1 b2 b3
                go_wp2_with (first | (go_at_call 235; (with_reducible refine (c1.out _).mono ?_); rintro e w2 ⟨rfl, hb2⟩; obtain ⟨hc2, hf2⟩ := bcell hb2; have hz2 : w.heap.size < w2.heap.size := by have := hb2.size; (try simp at this); omega) | (go_at_call 217; (with_reducible refine (c3.out _).mono ?_); rintro e w' ⟨rfl, rfl⟩) | (go_at_call 217; (with_reducible refine (c4.out _).mono ?_); rintro e w' ⟨rfl, rfl⟩))
                go_ret
                exact ⟨ret_int e2.out, H0.out.trans ((HB.out.mono (by omega)).trans (((Below.refl _ _).alloc (by omega) _).trans (hb2.mono (by simp; omega))))⟩
              · have b4' : decide ((tx.size : Int) - k < at_) = false := by simp; omega
                by_cases b5 : at_ < en
                · have e1 := Lib.hid (hst.out (by omega) b5)
                  have e2 := Lib.hid ((e1.out.symm).trans (he.out (by rw [e1.out]; omega)))
                  clear b1 b2 b3 b4
                  go_wp2_with (first | (go_at_call 235; (with_reducible refine (c1.out _).mono ?_); rintro e w2 ⟨rfl, hb2⟩; obtain ⟨hc2, hf2⟩ := bcell hb2; have hz2 : w.heap.size < w2.heap.size := by have := hb2.size; (try simp at this); omega) | (go_at_call 217; (with_reducible refine (c3.out _).mono ?_); rintro e w' ⟨rfl, rfl⟩) | (go_at_call 217; (with_reducible refine (c4.out _).mono ?_); rintro e w' ⟨rfl, rfl⟩))
                  go_ret
                  exact ⟨ret_int e2.out, H0.out.trans ((HB.out.mono (by omega)).trans (((Below.refl _ _).alloc (by omega) _).trans (hb2.mono (by simp; omega))))⟩
                · have b5' : decide (at_ < en) = false := by simp; omega
                  have e1 := Lib.hid (hok.out (by omega) b5)
                  have e2 := Lib.hid (hx.out e1.out)
                  have q3 := Lib.hid (show wrap64 (at_ + k) = at_ + k from IntWalk.wrap64_in _ (by omega))
                  have r1 := Lib.hid (show 0 ≤ at_ + k ∧ at_ + k ≤ 140737488351236 by omega)
                  clear b1 b2 b3 b4 b5
                  go_wp2_with (first | (go_at_call 235; (with_reducible refine (c1.out _).mono ?_); rintro e w2 ⟨rfl, hb2⟩; obtain ⟨hc2, hf2⟩ := bcell hb2; have hz2 : w.heap.size < w2.heap.size := by have := hb2.size; (try simp at this); omega) | (go_at_call 217; (with_reducible refine (c3.out _).mono ?_); rintro e w' ⟨rfl, rfl⟩) | (go_at_call 217; (with_reducible refine (c4.out _).mono ?_); rintro e w' ⟨rfl, rfl⟩))
                  go_roundw
                  case rel => exact ⟨j + 1, at_ + k, by omega, by go_num, by rw [q3.out], r1.out.1, r1.out.2, by rw [HK.out]; exact e2.out, HB.out.trans (((Below.refl _ _).alloc (by omega) _).trans (hb2.mono (by simp; omega)))⟩
                  case measure => (simp [intOf]; try omega)
          · have c4 := Lib.hid (fun W => within_f ad_ 0 65535 W (by omega))
            have e1 := Lib.hid (hrng.out (by omega))
            have e2 := Lib.hid ((e1.out.symm).trans (he.out (by rw [e1.out]; omega)))
            clear b1 b2
            go_wp2_with (first | (go_at_call 235; (with_reducible refine (c1.out _).mono ?_); rintro e w2 ⟨rfl, hb2⟩; obtain ⟨hc2, hf2⟩ := bcell hb2; have hz2 : w.heap.size < w2.heap.size := by have := hb2.size; (try simp at this); omega) | (go_at_call 217; (with_reducible refine (c3.out _).mono ?_); rintro e w' ⟨rfl, rfl⟩) | (go_at_call 217; (with_reducible refine (c4.out _).mono ?_); rintro e w' ⟨rfl, rfl⟩))
            go_ret
            exact ⟨ret_int e2.out, H0.out.trans ((HB.out.mono (by omega)).trans (((Below.refl _ _).alloc (by omega) _).trans (hb2.mono (by simp; omega))))⟩
        · have c3 := Lib.hid (fun W => within_f sy (-1) (il - 1) W (by omega))
          have e1 := Lib.hid (hrng.out (by omega))
          have e2 := Lib.hid ((e1.out.symm).trans (he.out (by rw [e1.out]; omega)))
          clear b1
          go_wp2_with (first | (go_at_call 235; (with_reducible refine (c1.out _).mono ?_); rintro e w2 ⟨rfl, hb2⟩; obtain ⟨hc2, hf2⟩ := bcell hb2; have hz2 : w.heap.size < w2.heap.size := by have := hb2.size; (try simp at this); omega) | (go_at_call 217; (with_reducible refine (c3.out _).mono ?_); rintro e w' ⟨rfl, rfl⟩))
          go_ret
          exact ⟨ret_int e2.out, H0.out.trans ((HB.out.mono (by omega)).trans (((Below.refl _ _).alloc (by omega) _).trans (hb2.mono (by simp; omega))))⟩
    · have e1 := Lib.hid ((patsFrom_end (z := tx.size) (ni := il) (e := en) hlt).symm.trans HE.out)
      clear hb
      go_wp2_with fail
      go_ret
      exact ⟨ret_int e1.out, H0.out.trans (HB.out.mono (by omega))⟩

end Go.Proofs.YtjiedaialianmaaGreat
end
