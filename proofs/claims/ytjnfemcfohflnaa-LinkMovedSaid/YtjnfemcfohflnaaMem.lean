import Derived.Test.YtjnfemcfohflnaaBase
import Derived.Test.YtjnfemcfohflnaaModPure
import Derived.Laws.OwnMore
import Derived.Deep.AppendLies
/- Rows of structs in memory: 'Reads' (a slice that reads as a list, nil let in), modules that lie in memory. -/
namespace Go.Proofs.Ytjnfemcfohflnaa
open Go.RowKit

theorem block_of_add (a : Addr) (n : Nat) : (a.add n).block = a.block := by unfold Addr.add; split <;> rfl
theorem add_of_add (a : Addr) (i j : Nat) : (a.add i).add j = a.add (i + j) := by
  unfold Addr.add
  by_cases hi : i = 0 <;> by_cases hj : j = 0 <;> simp [hi, hj, Nat.add_assoc]

def Reads (w : World) (B size : Nat) (A : Option Addr) (n : Nat) (xs : List Value) : Prop :=
  xs.length = n * size ∧ (0 < n → ∃ ad, A = some ad ∧ ad.block < B ∧ ∀ j u, xs[j]? = some u → w.cell? (ad.add j) = some u)

section
variable {w w' : World} {B B' size n : Nat} {A : Option Addr} {xs : List Value}
theorem Reads.keep (h : Reads w B size A n xs) (hk : ∀ p : Addr, p.block < B → w'.cell? p = w.cell? p) : Reads w' B size A n xs :=
  ⟨h.1, fun hn => by
    obtain ⟨ad, e, hb, hc⟩ := h.2 hn
    exact ⟨ad, e, hb, fun j u hu => (hk _ (by rw [block_of_add]; exact hb)).trans (hc j u hu)⟩⟩
theorem Reads.more (h : Reads w B size A n xs) (hB : B ≤ B') : Reads w B' size A n xs :=
  ⟨h.1, fun hn => by
    obtain ⟨ad, e, hb, hc⟩ := h.2 hn
    exact ⟨ad, e, by omega, hc⟩⟩
theorem Reads.below (h : Reads w B size A n xs) (hb : Below B w w') : Reads w' B size A n xs := h.keep fun _ hp => hb.cell hp
theorem Reads.of_own {base : Nat} {e : TypeId} {c : Nat} (h : w.ownsRow base e size (.slice A n c) n xs) : Reads w w.heap.size size A n xs := by
  refine ⟨h.1, fun hn => ?_⟩
  obtain ⟨g, cap, hv, _, hlt⟩ := h.form hn
  have hA : A = some ⟨g, 0, none⟩ := by injection hv
  subst hA
  exact ⟨_, rfl, hlt, h.cells (g := g) rfl⟩
end

/-- the slice (A, length) reads in w as these elements, each of so many cells -/
def Row {α : Type} (enc : α → List Value) (k : Nat) (w : World) (A : Option Addr) (l : List α) : Prop := Reads w w.heap.size k A l.length (l.flatMap enc)

theorem flat_get {α : Type} {enc : α → List Value} {k : Nat} (hk : ∀ x, (enc x).length = k) : ∀ (l : List α) (i j : Nat) (hi : i < l.length), j < k → (l.flatMap enc)[i * k + j]? = (enc l[i])[j]?
  | x :: l, 0, j, _, hj => by
    rw [List.flatMap_cons, List.getElem?_append_left (by rw [hk]; omega)]; simp
  | x :: l, i + 1, j, hi, hj => by
    rw [List.flatMap_cons, List.getElem?_append_right (by rw [hk, Nat.succ_mul]; omega), hk]
    have : (i + 1) * k + j - k = i * k + j := by rw [Nat.succ_mul]; omega
    rw [this, flat_get hk l i j (by simpa using hi) hj]; simp
theorem flat_length {α : Type} {enc : α → List Value} {k : Nat} (hk : ∀ x, (enc x).length = k) (l : List α) : (l.flatMap enc).length = l.length * k := by
  induction l with
  | nil => simp
  | cons x l ih => simp [List.flatMap_cons, hk, ih, Nat.succ_mul, Nat.add_comm]

section
variable {α : Type} {enc : α → List Value} {k : Nat} {w w' : World} {A : Option Addr} {l : List α}
theorem Row.below (h : Row enc k w A l) (hb : Below w.heap.size w w') : Row enc k w' A l := (Reads.below h hb).more hb.size
theorem Row.at_ (hk : ∀ x, (enc x).length = k) (h : Row enc k w A l) (i : Nat) (hi : i < l.length) :
    ∃ ad, A = some ad ∧ ad.block < w.heap.size ∧ ∀ j u, (enc l[i])[j]? = some u → w.cell? ((ad.add (i * k)).add j) = some u := by
  obtain ⟨ad, e, hb, hc⟩ := h.2 (by omega)
  refine ⟨ad, e, hb, fun j u hu => ?_⟩
  rw [add_of_add]
  refine hc _ _ ?_
  have hj : j < k := by
    rcases Nat.lt_or_ge j k with h | h
    · exact h
    · rw [List.getElem?_eq_none (by rw [hk]; exact h)] at hu; cases hu
  rw [flat_get hk l i j hi hj]; exact hu
theorem Row.nil : Row enc k w none ([] : List α) := ⟨by simp, fun h => absurd h (by simp)⟩
end

abbrev iv (a : Int) : Value := .int .i64 a
def Exp.cells (x : Exp) : List Value := [.string x.name, iv x.at_]
def Imp.cells (x : Imp) : List Value := [.string x.mod, .string x.name, iv x.major, iv x.minor]
def Pat.cells (p : Pat) : List Value := [iv p.kind, iv p.at_, iv p.sym, iv p.add]
def Mod.cells (m : Mod) : List Value := [.string m.name, iv m.major, iv m.minor, .string m.text, .slice m.eA m.ex.length m.eC, .slice m.iA m.im.length m.iC, .slice m.pA m.pa.length m.pC]
def Plc.cells (x : Plc) : List Value := x.m.cells ++ [iv x.first]
def Krn.cells (x : Krn) : List Value := [iv x.major, iv x.minor, .slice x.eA x.ex.length x.eC]
abbrev Exp.v (x : Exp) : Value := .agg #[.string x.name, iv x.at_]
abbrev Imp.v (x : Imp) : Value := .agg #[.string x.mod, .string x.name, iv x.major, iv x.minor]
abbrev Mod.v (m : Mod) : Value := .agg #[.string m.name, iv m.major, iv m.minor, .string m.text, .slice m.eA m.ex.length m.eC, .slice m.iA m.im.length m.iC, .slice m.pA m.pa.length m.pC]
abbrev Plc.v (x : Plc) : Value := .agg #[.string x.m.name, iv x.m.major, iv x.m.minor, .string x.m.text, .slice x.m.eA x.m.ex.length x.m.eC, .slice x.m.iA x.m.im.length x.m.iC, .slice x.m.pA x.m.pa.length x.m.pC, iv x.first]
abbrev Krn.v (x : Krn) : Value := .agg #[iv x.major, iv x.minor, .slice x.eA x.ex.length x.eC]

def big : Nat := 140737488351232
abbrev ExpsOk (w : World) (A : Option Addr) (l : List Exp) : Prop := Row Exp.cells 2 w A l ∧ l.length ≤ big ∧ ∀ x ∈ l, x.name.size ≤ big
abbrev ImpsOk (w : World) (A : Option Addr) (l : List Imp) : Prop := Row Imp.cells 4 w A l ∧ l.length ≤ big ∧ ∀ x ∈ l, x.mod.size ≤ big ∧ x.name.size ≤ big
abbrev PatsOk (w : World) (A : Option Addr) (l : List Pat) : Prop := Row Pat.cells 4 w A l ∧ l.length ≤ big
structure Mod.ok (m : Mod) (w : World) : Prop where
  ex : ExpsOk w m.eA m.ex
  im : ImpsOk w m.iA m.im
  pa : PatsOk w m.pA m.pa
  name : m.name.size ≤ big
  text : m.text.size ≤ big
theorem Mod.ok.below {m : Mod} {w w' : World} (h : m.ok w) (hb : Below w.heap.size w w') : m.ok w' :=
  ⟨⟨h.ex.1.below hb, h.ex.2⟩, ⟨h.im.1.below hb, h.im.2⟩, ⟨h.pa.1.below hb, h.pa.2⟩, h.name, h.text⟩
structure PlsOk (w : World) (A : Option Addr) (l : List Plc) : Prop where
  row : Row Plc.cells 8 w A l
  len : l.length ≤ big
  each : ∀ x ∈ l, x.m.ok w
theorem PlsOk.below {A : Option Addr} {l : List Plc} {w w' : World} (h : PlsOk w A l) (hb : Below w.heap.size w w') : PlsOk w' A l :=
  ⟨h.row.below hb, h.len, fun x hx => (h.each x hx).below hb⟩
structure Krn.ok (x : Krn) (w : World) : Prop where
  ex : ExpsOk w x.eA x.ex
theorem Krn.ok.below {m : Krn} {w w' : World} (h : m.ok w) (hb : Below w.heap.size w w') : m.ok w' := ⟨⟨h.ex.1.below hb, h.ex.2⟩⟩

theorem add_zero_ (a : Addr) : a.add 0 = a := by simp [Addr.add]
theorem add_pos_ (a : Addr) (j : Nat) (h : 0 < j) : a.add j = ⟨a.block, a.off + j, none⟩ := by unfold Addr.add; rw [if_neg (by omega)]
theorem exp_at {w w' : World} {A : Option Addr} {l : List Exp} (h : Row Exp.cells 2 w A l) (hb : Below w.heap.size w w') (i : Nat) (hi : i < l.length) :
    ∃ ad, A = some ad ∧ ad.block < w.heap.size ∧ w'.cell? (ad.add (i * 2)) = some (.string l[i].name) ∧ w'.cell? ⟨(ad.add (i * 2)).block, (ad.add (i * 2)).off + 1, none⟩ = some (iv l[i].at_) := by
  obtain ⟨ad, rfl, hab, hc⟩ := Row.at_ (enc := Exp.cells) (k := 2) (fun _ => rfl) h i hi
  have e0 := hc 0 _ rfl
  rw [add_zero_] at e0
  have hk : ∀ j u, 0 < j → (Exp.cells l[i])[j]? = some u → w'.cell? ⟨(ad.add (i * 2)).block, (ad.add (i * 2)).off + j, none⟩ = some u := fun j u hj hu => by
    rw [← add_pos_ _ _ hj]
    exact (hb.cell (by rw [block_of_add, block_of_add]; exact hab)).trans (hc j u hu)
  exact ⟨ad, rfl, hab, (hb.cell (by rw [block_of_add]; exact hab)).trans e0, hk 1 _ (by omega) rfl⟩
theorem imp_at {w w' : World} {A : Option Addr} {l : List Imp} (h : Row Imp.cells 4 w A l) (hb : Below w.heap.size w w') (i : Nat) (hi : i < l.length) :
    ∃ ad, A = some ad ∧ ad.block < w.heap.size ∧ w'.cell? (ad.add (i * 4)) = some (.string l[i].mod) ∧ w'.cell? ⟨(ad.add (i * 4)).block, (ad.add (i * 4)).off + 1, none⟩ = some (.string l[i].name) ∧ w'.cell? ⟨(ad.add (i * 4)).block, (ad.add (i * 4)).off + 2, none⟩ = some (iv l[i].major) ∧ w'.cell? ⟨(ad.add (i * 4)).block, (ad.add (i * 4)).off + 3, none⟩ = some (iv l[i].minor) := by
  obtain ⟨ad, rfl, hab, hc⟩ := Row.at_ (enc := Imp.cells) (k := 4) (fun _ => rfl) h i hi
  have e0 := hc 0 _ rfl
  rw [add_zero_] at e0
  have hk : ∀ j u, 0 < j → (Imp.cells l[i])[j]? = some u → w'.cell? ⟨(ad.add (i * 4)).block, (ad.add (i * 4)).off + j, none⟩ = some u := fun j u hj hu => by
    rw [← add_pos_ _ _ hj]
    exact (hb.cell (by rw [block_of_add, block_of_add]; exact hab)).trans (hc j u hu)
  exact ⟨ad, rfl, hab, (hb.cell (by rw [block_of_add]; exact hab)).trans e0, hk 1 _ (by omega) rfl, hk 2 _ (by omega) rfl, hk 3 _ (by omega) rfl⟩
theorem pat_at {w w' : World} {A : Option Addr} {l : List Pat} (h : Row Pat.cells 4 w A l) (hb : Below w.heap.size w w') (i : Nat) (hi : i < l.length) :
    ∃ ad, A = some ad ∧ ad.block < w.heap.size ∧ w'.cell? (ad.add (i * 4)) = some (iv l[i].kind) ∧ w'.cell? ⟨(ad.add (i * 4)).block, (ad.add (i * 4)).off + 1, none⟩ = some (iv l[i].at_) ∧ w'.cell? ⟨(ad.add (i * 4)).block, (ad.add (i * 4)).off + 2, none⟩ = some (iv l[i].sym) ∧ w'.cell? ⟨(ad.add (i * 4)).block, (ad.add (i * 4)).off + 3, none⟩ = some (iv l[i].add) := by
  obtain ⟨ad, rfl, hab, hc⟩ := Row.at_ (enc := Pat.cells) (k := 4) (fun _ => rfl) h i hi
  have e0 := hc 0 _ rfl
  rw [add_zero_] at e0
  have hk : ∀ j u, 0 < j → (Pat.cells l[i])[j]? = some u → w'.cell? ⟨(ad.add (i * 4)).block, (ad.add (i * 4)).off + j, none⟩ = some u := fun j u hj hu => by
    rw [← add_pos_ _ _ hj]
    exact (hb.cell (by rw [block_of_add, block_of_add]; exact hab)).trans (hc j u hu)
  exact ⟨ad, rfl, hab, (hb.cell (by rw [block_of_add]; exact hab)).trans e0, hk 1 _ (by omega) rfl, hk 2 _ (by omega) rfl, hk 3 _ (by omega) rfl⟩
theorem plc_at {w w' : World} {A : Option Addr} {l : List Plc} (h : Row Plc.cells 8 w A l) (hb : Below w.heap.size w w') (i : Nat) (hi : i < l.length) :
    ∃ ad, A = some ad ∧ ad.block < w.heap.size ∧ w'.cell? (ad.add (i * 8)) = some (.string l[i].m.name) ∧ w'.cell? ⟨(ad.add (i * 8)).block, (ad.add (i * 8)).off + 1, none⟩ = some (iv l[i].m.major) ∧ w'.cell? ⟨(ad.add (i * 8)).block, (ad.add (i * 8)).off + 2, none⟩ = some (iv l[i].m.minor) ∧ w'.cell? ⟨(ad.add (i * 8)).block, (ad.add (i * 8)).off + 3, none⟩ = some (.string l[i].m.text) ∧ w'.cell? ⟨(ad.add (i * 8)).block, (ad.add (i * 8)).off + 4, none⟩ = some (.slice l[i].m.eA l[i].m.ex.length l[i].m.eC) ∧ w'.cell? ⟨(ad.add (i * 8)).block, (ad.add (i * 8)).off + 5, none⟩ = some (.slice l[i].m.iA l[i].m.im.length l[i].m.iC) ∧ w'.cell? ⟨(ad.add (i * 8)).block, (ad.add (i * 8)).off + 6, none⟩ = some (.slice l[i].m.pA l[i].m.pa.length l[i].m.pC) ∧ w'.cell? ⟨(ad.add (i * 8)).block, (ad.add (i * 8)).off + 7, none⟩ = some (iv l[i].first) := by
  obtain ⟨ad, rfl, hab, hc⟩ := Row.at_ (enc := Plc.cells) (k := 8) (fun _ => rfl) h i hi
  have e0 := hc 0 _ rfl
  rw [add_zero_] at e0
  have hk : ∀ j u, 0 < j → (Plc.cells l[i])[j]? = some u → w'.cell? ⟨(ad.add (i * 8)).block, (ad.add (i * 8)).off + j, none⟩ = some u := fun j u hj hu => by
    rw [← add_pos_ _ _ hj]
    exact (hb.cell (by rw [block_of_add, block_of_add]; exact hab)).trans (hc j u hu)
  exact ⟨ad, rfl, hab, (hb.cell (by rw [block_of_add]; exact hab)).trans e0, hk 1 _ (by omega) rfl, hk 2 _ (by omega) rfl, hk 3 _ (by omega) rfl, hk 4 _ (by omega) rfl, hk 5 _ (by omega) rfl, hk 6 _ (by omega) rfl, hk 7 _ (by omega) rfl⟩
theorem str_ne {a b : ByteArray} (h : a ≠ b) : (a.toList == b.toList) = false := by
  rw [Lib.toList_data, Lib.toList_data, beq_eq_false_iff_ne]
  exact fun e => h (ba_eq e)
theorem str_eq {a b : ByteArray} (h : a = b) : (a.toList == b.toList) = true := by rw [h]; simp

theorem box2 {w w0 : World} {a0 a1 : Value} {t : TypeId} (h : w0 = w.alloc (.cells #[a0, a1] t)) : w0.cell? ⟨w.heap.size, 0, none⟩ = some a0 ∧ w0.cell? ⟨w.heap.size, 1, none⟩ = some a1 ∧ w0.heap.size = w.heap.size + 1 ∧ Below w.heap.size w w0 := by
  subst h
  refine ⟨by rw [World.cell?_alloc_new]; rfl, by rw [World.cell?_alloc_new]; rfl, by simp, (Below.refl _ _).alloc (Nat.le_refl _) _⟩
theorem box3 {w w0 : World} {a0 a1 a2 : Value} {t : TypeId} (h : w0 = w.alloc (.cells #[a0, a1, a2] t)) : w0.cell? ⟨w.heap.size, 0, none⟩ = some a0 ∧ w0.cell? ⟨w.heap.size, 1, none⟩ = some a1 ∧ w0.cell? ⟨w.heap.size, 2, none⟩ = some a2 ∧ w0.heap.size = w.heap.size + 1 ∧ Below w.heap.size w w0 := by
  subst h
  refine ⟨by rw [World.cell?_alloc_new]; rfl, by rw [World.cell?_alloc_new]; rfl, by rw [World.cell?_alloc_new]; rfl, by simp, (Below.refl _ _).alloc (Nat.le_refl _) _⟩
theorem box4 {w w0 : World} {a0 a1 a2 a3 : Value} {t : TypeId} (h : w0 = w.alloc (.cells #[a0, a1, a2, a3] t)) : w0.cell? ⟨w.heap.size, 0, none⟩ = some a0 ∧ w0.cell? ⟨w.heap.size, 1, none⟩ = some a1 ∧ w0.cell? ⟨w.heap.size, 2, none⟩ = some a2 ∧ w0.cell? ⟨w.heap.size, 3, none⟩ = some a3 ∧ w0.heap.size = w.heap.size + 1 ∧ Below w.heap.size w w0 := by
  subst h
  refine ⟨by rw [World.cell?_alloc_new]; rfl, by rw [World.cell?_alloc_new]; rfl, by rw [World.cell?_alloc_new]; rfl, by rw [World.cell?_alloc_new]; rfl, by simp, (Below.refl _ _).alloc (Nat.le_refl _) _⟩
theorem box7 {w w0 : World} {a0 a1 a2 a3 a4 a5 a6 : Value} {t : TypeId} (h : w0 = w.alloc (.cells #[a0, a1, a2, a3, a4, a5, a6] t)) : w0.cell? ⟨w.heap.size, 0, none⟩ = some a0 ∧ w0.cell? ⟨w.heap.size, 1, none⟩ = some a1 ∧ w0.cell? ⟨w.heap.size, 2, none⟩ = some a2 ∧ w0.cell? ⟨w.heap.size, 3, none⟩ = some a3 ∧ w0.cell? ⟨w.heap.size, 4, none⟩ = some a4 ∧ w0.cell? ⟨w.heap.size, 5, none⟩ = some a5 ∧ w0.cell? ⟨w.heap.size, 6, none⟩ = some a6 ∧ w0.heap.size = w.heap.size + 1 ∧ Below w.heap.size w w0 := by
  subst h
  refine ⟨by rw [World.cell?_alloc_new]; rfl, by rw [World.cell?_alloc_new]; rfl, by rw [World.cell?_alloc_new]; rfl, by rw [World.cell?_alloc_new]; rfl, by rw [World.cell?_alloc_new]; rfl, by rw [World.cell?_alloc_new]; rfl, by rw [World.cell?_alloc_new]; rfl, by simp, (Below.refl _ _).alloc (Nat.le_refl _) _⟩
theorem box8 {w w0 : World} {a0 a1 a2 a3 a4 a5 a6 a7 : Value} {t : TypeId} (h : w0 = w.alloc (.cells #[a0, a1, a2, a3, a4, a5, a6, a7] t)) : w0.cell? ⟨w.heap.size, 0, none⟩ = some a0 ∧ w0.cell? ⟨w.heap.size, 1, none⟩ = some a1 ∧ w0.cell? ⟨w.heap.size, 2, none⟩ = some a2 ∧ w0.cell? ⟨w.heap.size, 3, none⟩ = some a3 ∧ w0.cell? ⟨w.heap.size, 4, none⟩ = some a4 ∧ w0.cell? ⟨w.heap.size, 5, none⟩ = some a5 ∧ w0.cell? ⟨w.heap.size, 6, none⟩ = some a6 ∧ w0.cell? ⟨w.heap.size, 7, none⟩ = some a7 ∧ w0.heap.size = w.heap.size + 1 ∧ Below w.heap.size w w0 := by
  subst h
  refine ⟨by rw [World.cell?_alloc_new]; rfl, by rw [World.cell?_alloc_new]; rfl, by rw [World.cell?_alloc_new]; rfl, by rw [World.cell?_alloc_new]; rfl, by rw [World.cell?_alloc_new]; rfl, by rw [World.cell?_alloc_new]; rfl, by rw [World.cell?_alloc_new]; rfl, by rw [World.cell?_alloc_new]; rfl, by simp, (Below.refl _ _).alloc (Nat.le_refl _) _⟩

end Go.Proofs.Ytjnfemcfohflnaa
