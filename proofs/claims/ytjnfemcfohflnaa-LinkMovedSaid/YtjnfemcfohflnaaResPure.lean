import Derived.Test.YtjnfemcfohflnaaModPure
/- Plain Lean: what is wrong with modules that are placed, kernels; addresses of imports (chapter D). No program in sight. -/
open Go
namespace Go.Proofs.Ytjnfemcfohflnaa

def modsErr (q : Plc → Bool) : List Plc → Int
  | [] => 0
  | x :: l => if modErr x.m ≠ 0 then modErr x.m else if q x = false then 3 else modsErr q l
def modsAll (q : Plc → Bool) (l : List Plc) : Int := if 8 < l.length then 2 else modsErr q l
def modsFrom (q : Plc → Bool) (l : List Plc) (j : Nat) : Int := modsErr q (l.drop j)
section
variable {q : Plc → Bool} {l : List Plc} {j : Nat}
theorem modsFrom_end (h : ¬ j < l.length) : modsFrom q l j = 0 := by
  unfold modsFrom; rw [List.drop_eq_nil_of_le (by omega)]; rfl
theorem modsFrom_err (h : j < l.length) (h1 : modErr l[j].m ≠ 0) : modsFrom q l j = modErr l[j].m := by
  unfold modsFrom; rw [List.drop_eq_getElem_cons h]; unfold modsErr; rw [if_pos h1]
theorem modsFrom_no (h : j < l.length) (h1 : modErr l[j].m = 0) (h2 : q l[j] = false) : modsFrom q l j = 3 := by
  unfold modsFrom; rw [List.drop_eq_getElem_cons h]; unfold modsErr; rw [if_neg (by omega), if_pos h2]
theorem modsFrom_next (h : j < l.length) (h1 : modErr l[j].m = 0) (h2 : q l[j] = true) : modsFrom q l (j + 1) = modsFrom q l j := by
  conv => rhs; unfold modsFrom; rw [List.drop_eq_getElem_cons h]; unfold modsErr; rw [if_neg (by omega), if_neg (by simp [h2])]
  rfl
end
theorem modsErr_ok {q : Plc → Bool} : ∀ {l : List Plc}, modsErr q l = 0 → ∀ x ∈ l, modErr x.m = 0 ∧ q x = true
  | y :: l, h, x, hx => by
    unfold modsErr at h
    split at h
    · contradiction
    · split at h
      · cases h
      · rcases List.mem_cons.1 hx with rfl | hx
        · exact ⟨by omega, by simpa using ‹¬ q x = false›⟩
        · exact modsErr_ok h x hx
theorem modsAll_ok {q : Plc → Bool} {l : List Plc} (h : modsAll q l = 0) : l.length ≤ 8 ∧ ∀ x ∈ l, modErr x.m = 0 ∧ q x = true := by
  unfold modsAll at h
  split at h
  · cases h
  · exact ⟨by omega, modsErr_ok h⟩
theorem modsErr_congr {q p : Plc → Bool} : ∀ {l : List Plc}, (∀ x ∈ l, modErr x.m = 0 → q x = p x) → modsErr q l = modsErr p l
  | [], _ => rfl
  | x :: l, h => by
    unfold modsErr
    rw [modsErr_congr (fun y hy => h y (List.mem_cons_of_mem _ hy))]
    by_cases h1 : modErr x.m = 0
    · rw [h x (by simp) h1]
    · rw [if_pos h1, if_pos h1]

theorem modErr_facts {m : Mod} (h : modErr m = 0) : isName m.name = true ∧ m.name ≠ kernelBytes ∧ m.text.size ≤ 256 ∧ 1 ≤ m.text.size ∧ m.text.size % 4 = 0 ∧ m.ex.length ≤ 6 ∧ m.im.length ≤ 6 ∧ m.pa.length ≤ 12 ∧ expErr [] m.text.size m.ex = 0 ∧ impsErr [] m.im = 0 ∧
    (0 ≤ m.major ∧ m.major ≤ 255 ∧ 0 ≤ m.minor ∧ m.minor ≤ 255) := by
  unfold modErr at h
  by_cases h1 : isName m.name = false ∨ m.name = kernelBytes
  · rw [if_pos h1] at h; omega
  rw [if_neg h1] at h
  by_cases h2 : m.major < 0 ∨ 255 < m.major ∨ m.minor < 0 ∨ 255 < m.minor
  · rw [if_pos h2] at h; omega
  rw [if_neg h2] at h
  by_cases h3 : 256 < m.text.size ∨ 6 < m.ex.length ∨ 6 < m.im.length ∨ 12 < m.pa.length
  · rw [if_pos h3] at h; omega
  rw [if_neg h3] at h
  by_cases h4 : m.text.size = 0 ∨ m.text.size % 4 ≠ 0
  · rw [if_pos h4] at h; omega
  rw [if_neg h4] at h
  by_cases h5 : expErr [] m.text.size m.ex = 0
  · rw [if_neg (by omega)] at h
    by_cases h6 : impsErr [] m.im = 0
    · simp only [not_or] at h1
      exact ⟨by simpa using h1.1, h1.2, by omega, by omega, by omega, by omega, by omega, by omega, h5, h6, by omega⟩
    · rw [if_pos h6] at h; omega
  · rw [if_pos h5] at h; omega

theorem expErr_ok {most : Int} : ∀ {l : List Exp} {seen : List ByteArray}, expErr seen most l = 0 → ∀ x ∈ l, isName x.name = true ∧ 0 ≤ x.at_ ∧ x.at_ < most
  | y :: l, seen, h, x, hx => by
    unfold expErr at h
    by_cases h1 : isName y.name = false
    · rw [if_pos h1] at h; omega
    rw [if_neg h1] at h
    split at h
    · omega
    · by_cases h2 : y.at_ < 0 ∨ most ≤ y.at_
      · rw [if_pos h2] at h; omega
      rw [if_neg h2] at h
      rcases List.mem_cons.1 hx with rfl | hx
      · exact ⟨by simpa using h1, by omega, by omega⟩
      · exact expErr_ok h x hx

def krnErr (k : Krn) : Int :=
  if k.major < 0 ∨ 255 < k.major ∨ k.minor < 0 ∨ 255 < k.minor then 3 else if 8 < k.ex.length then 2 else expErr [] 4096 k.ex
def resQ (x : Plc) : Bool := decide (0 ≤ x.first) && decide (x.first ≤ 15)
def regQ (x : Plc) : Bool := decide (0 ≤ x.first) && decide (x.first ≤ 16 - manyOf x.m)
def refQ (first whole : Bool) (x : Plc) : Bool := !first || (decide (0 ≤ x.first) && decide (x.first ≤ 16 - (if whole then manyOf x.m else 1)))
def placedErr (k : Krn) (l : List Plc) : Int := if krnErr k ≠ 0 then krnErr k else modsAll resQ l
theorem refQ_res : refQ true false = resQ := by funext x; simp [refQ, resQ]
theorem refQ_reg : refQ true true = regQ := by funext x; simp [refQ, regQ]
theorem placed_ok {k : Krn} {l : List Plc} (h : placedErr k l = 0) : krnErr k = 0 ∧ modsAll resQ l = 0 := by
  unfold placedErr at h
  by_cases h1 : krnErr k = 0
  · rw [if_neg (by omega)] at h; exact ⟨h1, h⟩
  · rw [if_pos h1] at h; omega
theorem krn_ok {k : Krn} (h : krnErr k = 0) : ∀ x ∈ k.ex, isName x.name = true ∧ 0 ≤ x.at_ ∧ x.at_ < 4096 := by
  unfold krnErr at h
  split at h
  · omega
  split at h
  · omega
  · exact expErr_ok h

/-- the first place at which it holds; -1: there is none -/
def idxOf {α : Type} (q : α → Bool) : List α → Int
  | [] => -1
  | x :: l => if q x = true then 0 else if idxOf q l < 0 then -1 else idxOf q l + 1
theorem idxOf_none {α : Type} {q : α → Bool} : ∀ {l : List α}, (∀ j (h : j < l.length), q l[j] = false) → idxOf q l = -1
  | [], _ => rfl
  | x :: l, h => by
    unfold idxOf
    have h0 : q x = false := h 0 (by simp)
    rw [if_neg (by simp [h0])]
    rw [idxOf_none (l := l) (fun j hj => h (j + 1) (by simpa using hj))]; rfl
theorem idxOf_some {α : Type} {q : α → Bool} : ∀ {l : List α} {j : Nat} (hj : j < l.length), (∀ k (h : k < l.length), k < j → q l[k] = false) → q l[j] = true → idxOf q l = j
  | x :: l, 0, _, _, h => by
    have h0 : q x = true := h
    unfold idxOf; rw [if_pos h0]; rfl
  | x :: l, j + 1, hj, hn, h => by
    unfold idxOf
    have h0 : q x = false := hn 0 (by simp) (by omega)
    rw [if_neg (by simp [h0])]
    have := idxOf_some (q := q) (l := l) (j := j) (by simpa using hj) (fun k hk hkj => hn (k + 1) (by simpa using hk) (by omega)) h
    rw [this, if_neg (by omega)]; omega
/-- either nothing is there, or it is the first -/
theorem idxOf_cases {α : Type} (q : α → Bool) (l : List α) : (idxOf q l = -1 ∧ ∀ x ∈ l, q x = false) ∨ ∃ j, ∃ h : j < l.length, idxOf q l = j ∧ q l[j] = true ∧ ∀ k (hk : k < l.length), k < j → q l[k] = false := by
  by_cases h : ∀ x ∈ l, q x = false
  · exact .inl ⟨idxOf_none (fun j hj => h _ (List.getElem_mem _)), h⟩
  · refine .inr ?_
    have : ∃ j, ∃ h : j < l.length, q l[j] = true := by
      obtain ⟨x, hx⟩ := Classical.not_forall.1 h
      obtain ⟨hx, hq⟩ := Classical.not_imp.1 hx
      obtain ⟨j, hj, rfl⟩ := List.getElem_of_mem hx
      exact ⟨j, hj, by simpa using hq⟩
    have hmin : ∃ j, (∃ h : j < l.length, q l[j] = true) ∧ ∀ k, k < j → ¬ ∃ h : k < l.length, q l[k] = true := by
      obtain ⟨j, hj⟩ := this
      induction j using Nat.strongRecOn with
      | _ j ih =>
        by_cases hk : ∃ k, k < j ∧ ∃ h : k < l.length, q l[k] = true
        · obtain ⟨k, hkj, hk⟩ := hk; exact ih k hkj hk
        · exact ⟨j, hj, fun k hkj hk' => hk ⟨k, hkj, hk'⟩⟩
    obtain ⟨j, ⟨hj, hq⟩, hn⟩ := hmin
    have hn' : ∀ k (hk : k < l.length), k < j → q l[k] = false := fun k hk hkj => by
      cases hqk : q l[k]
      · rfl
      · exact absurd ⟨hk, hqk⟩ (hn k hkj)
    exact ⟨j, hj, idxOf_some hj hn' hq, hq, hn'⟩

def named (nm : ByteArray) (x : Plc) : Bool := decide (x.m.name = nm)
def called (nm : ByteArray) (x : Exp) : Bool := decide (x.name = nm)
/-- where an export is: its place and 0; 0 and 5: there is none -/
def expAt (l : List Exp) (nm : ByteArray) : Int × Int := match l.find? (called nm) with
  | some x => (x.at_, 0)
  | none => (0, 5)
def addrOf (k : Krn) (l : List Plc) (i : Imp) : Int × Int :=
  if i.mod = kernelBytes then (if k.major ≠ i.major ∨ k.minor < i.minor then (0, 4) else expAt k.ex i.name)
  else match l.find? (named i.mod) with
    | none => (0, 5)
    | some x => if x.m.major ≠ i.major ∨ x.m.minor < i.minor then (0, 4) else
      if (expAt x.m.ex i.name).2 ≠ 0 then (0, 5) else (4096 + 64 * x.first + (expAt x.m.ex i.name).1, 0)
theorem find_cases {α : Type} (q : α → Bool) (l : List α) : (idxOf q l = -1 ∧ l.find? q = none) ∨ ∃ j, ∃ h : j < l.length, idxOf q l = j ∧ l.find? q = some l[j] := by
  rcases idxOf_cases q l with ⟨h1, h2⟩ | ⟨j, hj, h1, h2, h3⟩
  · exact .inl ⟨h1, List.find?_eq_none.2 (fun x hx => by simp [h2 x hx])⟩
  · refine .inr ⟨j, hj, h1, ?_⟩
    rw [List.find?_eq_some_iff_getElem]
    exact ⟨h2, j, hj, rfl, fun k hk => by simp [h3 k (by omega) hk]⟩

/-- the addresses of some imports, or what is wrong with the first that is not right -/
def addrsOf (k : Krn) (l : List Plc) : List Imp → List Int × Int
  | [] => ([], 0)
  | i :: r => if (addrOf k l i).2 ≠ 0 then ([], (addrOf k l i).2) else if (addrsOf k l r).2 ≠ 0 then ([], (addrsOf k l r).2) else ((addrOf k l i).1 :: (addrsOf k l r).1, 0)

theorem addrs_shape {k : Krn} {l : List Plc} : ∀ {r : List Imp}, (addrsOf k l r).2 ≠ 0 → (addrsOf k l r).1 = []
  | [], h => absurd rfl h
  | i :: r, h => by
    unfold addrsOf at h ⊢
    split
    · rfl
    · split
      · rfl
      · rename_i h1 h2
        rw [if_neg h1, if_neg h2] at h
        exact absurd rfl h
/-- what has been told so far, and what is to come -/
def glue (pre : List Int) (r : List Int × Int) : List Int × Int := if r.2 ≠ 0 then ([], r.2) else (pre ++ r.1, 0)
theorem glue_nil {k : Krn} {l : List Plc} {r : List Imp} : glue [] (addrsOf k l r) = addrsOf k l r := by
  unfold glue
  by_cases h : (addrsOf k l r).2 = 0
  · rw [if_neg (by omega)]; simp [← h]
  · rw [if_pos h, ← addrs_shape h]
theorem glue_end {k : Krn} {l : List Plc} {r : List Imp} {pre : List Int} {j : Nat} (h : ¬ j < r.length) : glue pre (addrsOf k l (r.drop j)) = (pre, 0) := by
  rw [List.drop_eq_nil_of_le (by omega)]; simp [addrsOf, glue]
theorem glue_err {k : Krn} {l : List Plc} {r : List Imp} {pre : List Int} {j : Nat} (h : j < r.length) (he : (addrOf k l r[j]).2 ≠ 0) : glue pre (addrsOf k l (r.drop j)) = ([], (addrOf k l r[j]).2) := by
  rw [List.drop_eq_getElem_cons h]; unfold addrsOf; rw [if_pos he]; unfold glue; rw [if_pos he]
theorem addrs_cons {k : Krn} {l : List Plc} {i : Imp} {r : List Imp} (he : (addrOf k l i).2 = 0) : addrsOf k l (i :: r) = if (addrsOf k l r).2 ≠ 0 then ([], (addrsOf k l r).2) else ((addrOf k l i).1 :: (addrsOf k l r).1, 0) := by
  rw [addrsOf, if_neg (by simp [he])]
theorem glue_ok {k : Krn} {l : List Plc} {r : List Imp} {pre : List Int} {j : Nat} (h : j < r.length) (he : (addrOf k l r[j]).2 = 0) : glue (pre ++ [(addrOf k l r[j]).1]) (addrsOf k l (r.drop (j + 1))) = glue pre (addrsOf k l (r.drop j)) := by
  rw [List.drop_eq_getElem_cons h, addrs_cons he]
  by_cases hr : (addrsOf k l (r.drop (j + 1))).2 = 0
  · rw [if_neg (by simp [hr])]; unfold glue; rw [if_neg (by simp [hr]), if_neg (by simp)]; simp
  · rw [if_pos hr]; unfold glue; rw [if_pos hr, if_pos hr]

end Go.Proofs.Ytjnfemcfohflnaa
