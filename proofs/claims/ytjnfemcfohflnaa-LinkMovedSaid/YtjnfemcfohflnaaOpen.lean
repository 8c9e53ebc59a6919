import Derived.Test.YtjnfemcfohflnaaFrame
import Derived.Test.YtjnfemcfohflnaaMem
import Derived.Deep.Slices
import Derived.Deep.Fields
import Derived.ChangeSame
/- Arguments opened: modules, rows of placed modules, kernels, imports: each lies in memory as 'ok' says. -/
namespace Go.Proofs.Ytjnfemcfohflnaa
open Go.ChangeShapes Go.WideShapes Go.ChangeAt Go.RowKit Go.Deep

/-- a datum is of a bulk that a machine can hold, in all its parts -/
def Fits {H : Type} (P : Program) (t : TypeId) (d : DataW H) : Prop := (d.weights P t).all (· ≤ reachBytes) = true

section
variable {H : Type} {enc : TypeId × Value → H} {P : Program} {w : World} {base : Nat} {spare : Nat → Bool} {held : Bool}

theorem fits_each {ts : List TypeId} {ds : List (DataW H)} (h : (DataW.weightsEach P ts ds).all (· ≤ reachBytes) = true) {j : Nat} {t : TypeId} {d : DataW H} (ht : ts[j]? = some t) (hd : ds[j]? = some d) : Fits P t d := by
  unfold Fits
  rw [List.all_eq_true] at h ⊢
  exact fun n hn => h n (DataW.weights_mem_each ht hd n hn)
theorem fits_agg {t : TypeId} {fs : Array Field} {parts : List (DataW H)} (hu : P.underlying t = some (.struct fs)) (h : Fits P t (.agg parts)) {j : Nat} {f : Field} {d : DataW H} (hf : fs[j]? = some f) (hd : parts[j]? = some d) : Fits P f.type d := by
  unfold Fits at h
  simp only [DataW.weights, hu] at h
  exact fits_each h (j := j) (by rw [List.getElem?_map]; simp [hf]) hd
theorem fits_string {t : TypeId} {l : List UInt8} (h : Fits P t (.lit (.string l) : DataW H)) : l.length ≤ reachBytes := by
  simpa [Fits, DataW.weights] using h
theorem weights_all_mem {e : TypeId} {x : DataW H} {n : Nat} : ∀ {l : List (DataW H)}, x ∈ l → n ∈ x.weights P e → n ∈ DataW.weightsAll P e l
  | d :: r, hx, hn => by
    simp only [DataW.weightsAll, List.mem_append]
    rcases List.mem_cons.1 hx with rfl | hx
    · exact .inl hn
    · exact .inr (weights_all_mem hx hn)
theorem fits_slice {t e : TypeId} {els sp : List (DataW H)} (hu : P.underlying t = some (.slice e)) (h : Fits P t (.slice els sp)) : (els.length + sp.length) * P.bytesOf e ≤ reachBytes ∧ ∀ x ∈ els, Fits P e x := by
  unfold Fits at h
  simp only [DataW.weights, hu, List.all_cons, Bool.and_eq_true, decide_eq_true_eq, List.all_append] at h
  refine ⟨h.1, fun x hx => ?_⟩
  unfold Fits
  rw [List.all_eq_true]
  exact fun n hn => List.all_eq_true.1 h.2.1 n (weights_all_mem hx hn)

theorem cell_lt {w : World} {a : Addr} {v : Value} (h : w.cell? a = some v) : a.block < w.heap.size := by
  rcases Nat.lt_or_ge a.block w.heap.size with hlt | hge
  · exact hlt
  · unfold World.cell? at h; rw [Array.getElem?_eq_none hge] at h; cases h

/-- a row, from what each of its elements is -/
theorem row_of {α : Type} (enc : α → List Value) (k : Nat) (hk : ∀ x, (enc x).length = k) (hk0 : 0 < k) (Q : α → Prop) (a : Addr) (len : Nat)
    (h : ∀ i, i < len → ∃ x, Q x ∧ ∀ j, j < k → w.cell? ((a.add (i * k)).add j) = (enc x)[j]?) : ∃ l : List α, l.length = len ∧ (∀ x ∈ l, Q x) ∧ Row enc k w (some a) l := by
  have hc : ∃ f : Fin len → α, ∀ i, Q (f i) ∧ ∀ j, j < k → w.cell? ((a.add (i.val * k)).add j) = (enc (f i))[j]? :=
    ⟨fun i => Classical.choose (h i.val i.isLt), fun i => Classical.choose_spec (h i.val i.isLt)⟩
  obtain ⟨f, hf⟩ := hc
  refine ⟨List.ofFn f, by simp, fun x hx => ?_, ?_⟩
  · obtain ⟨i, rfl⟩ := List.mem_ofFn.1 hx
    exact (hf i).1
  · refine ⟨by rw [flat_length hk], fun hn => ?_⟩
    have hl : (List.ofFn f).length = len := by simp
    have h0 : 0 < len := by omega
    refine ⟨a, rfl, ?_, fun j u hu => ?_⟩
    · have := (hf ⟨0, h0⟩).2 0 hk0
      rw [List.getElem?_eq_getElem (by rw [hk]; exact hk0)] at this
      have := cell_lt this
      rwa [block_of_add, block_of_add] at this
    · have hj : j < len * k := by
        rcases Nat.lt_or_ge j (len * k) with h | h
        · exact h
        · rw [List.getElem?_eq_none (by rw [flat_length hk, hl]; exact h)] at hu; cases hu
      have hi : j / k < len := Nat.div_lt_of_lt_mul (by rw [Nat.mul_comm]; exact hj)
      have hm : j % k < k := Nat.mod_lt _ hk0
      have e : j = (j / k) * k + j % k := by rw [Nat.mul_comm]; exact (Nat.div_add_mod j k).symm
      have h1 := (hf ⟨j / k, hi⟩).2 (j % k) hm
      have h2 := flat_get hk (List.ofFn f) (j / k) (j % k) (by rw [hl]; exact hi) hm
      rw [← e] at h2
      rw [add_of_add, ← e] at h1
      rw [h1, ← hu, h2]
      simp
end

abbrev Str (s : ByteArray) : Prop := s.size ≤ big
theorem reach_big : reachBytes = big := by rfl
section
variable {H : Type} {enc : TypeId × Value → H} {w : World} {base : Nat} {spare : Nat → Bool} {held : Bool} {n : Nat} {c : Value} {y : DataW H × List MemPlace}

theorem trod_str (h : DataW.trod enc Try.prog w base spare held n 9 [c] = some y) : ∃ s : ByteArray, c = .string s ∧ (Fits Try.prog 9 y.1 → s.size ≤ big) := by
  obtain ⟨s, e, rfl, _⟩ := DataW.trod_string Try.underlying9 h
  simp only [List.cons.injEq, and_true] at e
  exact ⟨s, e, fun hf => by have := fits_string hf; rw [reach_big] at this; simpa using this⟩
theorem trod_i (h : DataW.trod enc Try.prog w base spare held n 3 [c] = some y) : ∃ a : Int, c = iv a := by
  obtain ⟨a, e, rfl, _⟩ := DataW.trod_int Try.underlying3 h
  simp only [List.cons.injEq, and_true] at e
  exact ⟨a, e⟩
end
/-- the elements of a slice of structs: each reads as its type says -/
theorem open_els {H : Type} {enc : TypeId × Value → H} {P : Program} {w : World} {base : Nat} {spare : Nat → Bool} {held : Bool} {t e : TypeId} {n : Nat} {c : Value} {y : DataW H × List MemPlace}
    (ht : P.underlying t = some (.slice e)) (hb0 : 0 < P.bytesOf e) (k : Nat) (hC : P.cellsOf e = k) (h : DataW.trod enc P w base spare held n t [c] = some y) :
    ∃ (A : Option Addr) (len cap : Nat), c = .slice A len cap ∧ (Fits P t y.1 → len ≤ big) ∧ (A = none → len = 0) ∧ ∀ a, A = some a → ∀ i, i < len → ∃ (cs' : List Value) (n' : Nat) (z : DataW H × List MemPlace), cs'.length = k ∧
      (∀ j, j < k → w.cell? ((a.add (i * k)).add j) = cs'[j]?) ∧ DataW.trod enc P w base spare held n' e cs' = some z ∧ (Fits P t y.1 → Fits P e z.1) := by
  rcases open_slice ht h with ⟨e1, rfl⟩ | ⟨a, len, cap, m, n', D, Pl, e1, _, hl, _, hm, rfl, hi⟩
  · simp only [List.cons.injEq, and_true] at e1
    exact ⟨none, 0, 0, e1, fun _ => Nat.zero_le _, fun _ => rfl, fun a ha => absurd ha (by simp)⟩
  · simp only [List.cons.injEq, and_true] at e1
    refine ⟨some a, len, cap, e1, fun hf => ?_, fun ha => absurd ha (by simp), fun a' ha i hlt => ?_⟩
    · have h1 := (fits_slice ht hf).1
      rw [reach_big] at h1
      simp only [List.length_map, List.length_range] at h1
      have h2 : (len + (m - len)) * 1 ≤ (len + (m - len)) * P.bytesOf e := Nat.mul_le_mul_left _ hb0
      omega
    · obtain rfl : a = a' := Option.some.inj ha
      obtain ⟨cs', hc, ht'⟩ := hi i (by rw [hm]; split <;> omega)
      rw [hC] at hc
      obtain ⟨_, hcl, hat⟩ := World.cells?_some hc
      exact ⟨cs', n', _, hcl, hat, ht', fun hf => (fits_slice ht hf).2 (D i) (List.mem_map.2 ⟨i, List.mem_range.2 hlt, rfl⟩)⟩

theorem drop_take_one (cs : List Value) (j : Nat) (h : j < cs.length) : (cs.drop j).take 1 = [cs[j]] := by
  rw [List.drop_eq_getElem_cons h]; rfl
/-- the fields of a struct of one-cell fields -/
theorem open_fields {H : Type} {enc : TypeId × Value → H} {P : Program} {w : World} {base : Nat} {spare : Nat → Bool} {held : Bool} {t : TypeId} {fs : Array Field} {n : Nat} {cs : List Value} {y : DataW H × List MemPlace}
    (hu : P.underlying t = some (.struct fs)) (hone : oneCellFields P fs = true) (hlen : cs.length = fs.size) (h : DataW.trod enc P w base spare held n t cs = some y) :
    ∀ (j : Nat) (f : Field) (c : Value), fs[j]? = some f → cs[j]? = some c → ∃ n' z, DataW.trod enc P w base spare held n' f.type [c] = some z ∧ (Fits P t y.1 → Fits P f.type z.1) := by
  intro j f c hf hc
  obtain ⟨xs, n', _, rfl, _, hlx, hg⟩ := DataW.trod_struct hu h
  obtain ⟨ho, hk⟩ := hone_of hone j f hf
  have hj : j < fs.size := (Array.getElem?_eq_some_iff.1 hf).1
  have h1 := hg j f hf
  rw [ho, hk, drop_take_one cs j (by omega)] at h1
  have hx : xs[j]? = some (xs[j]'(by omega)) := List.getElem?_eq_getElem (by omega)
  have hcj : cs[j]'(by omega) = c := by rw [List.getElem?_eq_getElem (by omega)] at hc; exact Option.some.inj hc
  rw [hcj, hx] at h1
  exact ⟨n', _, h1, fun hF => fits_agg hu hF hf (by rw [List.getElem?_map, hx]; rfl)⟩


section
variable {H : Type} {enc : TypeId × Value → H} {w : World} {base : Nat} {spare : Nat → Bool} {held : Bool} {n : Nat} {c : Value} {cs : List Value} {y : DataW H × List MemPlace}

/-- a slice, all of whose elements are so -/
theorem open_row {α : Type} (encE : α → List Value) (k : Nat) (hk : ∀ x, (encE x).length = k) (hk0 : 0 < k) (Q : α → Prop) {t e : TypeId} (ht : Try.prog.underlying t = some (.slice e)) (hb0 : 0 < Try.prog.bytesOf e) (hC : Try.prog.cellsOf e = k)
    (hE : ∀ (cs' : List Value) (n' : Nat) (z : DataW H × List MemPlace), cs'.length = k → DataW.trod enc Try.prog w base spare held n' e cs' = some z → Fits Try.prog e z.1 → ∃ x : α, cs' = encE x ∧ Q x)
    (h : DataW.trod enc Try.prog w base spare held n t [c] = some y) (hF : Fits Try.prog t y.1) : ∃ (A : Option Addr) (l : List α) (cap : Nat), c = .slice A l.length cap ∧ l.length ≤ big ∧ (∀ x ∈ l, Q x) ∧ Row encE k w A l := by
  obtain ⟨A, len, cap, rfl, hl, hn, hel⟩ := open_els ht hb0 k hC h
  cases A with
  | none =>
    obtain rfl := hn rfl
    exact ⟨none, [], cap, rfl, Nat.zero_le _, by simp, Row.nil⟩
  | some a =>
    obtain ⟨l, rfl, hq, hr⟩ := row_of (w := w) encE k hk hk0 Q a len fun i hi => by
      obtain ⟨cs', n', z, hcl, hcell, htr, hf⟩ := hel a rfl i hi
      obtain ⟨x, rfl, hx⟩ := hE cs' n' z hcl htr (hf hF)
      exact ⟨x, hx, hcell⟩
    exact ⟨some a, l, cap, rfl, hl hF, hq, hr⟩

theorem Try.cellsInt : Try.prog.cellsOf 3 = 1 := by kernel_rfl
theorem Try.cellsModule : Try.prog.cellsOf 34 = 7 := by kernel_rfl
theorem Try.cellsPlaced : Try.prog.cellsOf 36 = 8 := by kernel_rfl
theorem Try.cellsImport : Try.prog.cellsOf 83 = 4 := by kernel_rfl
theorem Try.cellsKernel : Try.prog.cellsOf 24 = 3 := by kernel_rfl
theorem list2 {l : List Value} (h : l.length = 2) : ∃ a b, l = [a, b] := by
  match l, h with | [a, b], _ => exact ⟨a, b, rfl⟩
theorem list3 {l : List Value} (h : l.length = 3) : ∃ a b c, l = [a, b, c] := by
  match l, h with | [a, b, c], _ => exact ⟨a, b, c, rfl⟩
theorem list4 {l : List Value} (h : l.length = 4) : ∃ a b c d, l = [a, b, c, d] := by
  match l, h with | [a, b, c, d], _ => exact ⟨a, b, c, d, rfl⟩
theorem list7 {l : List Value} (h : l.length = 7) : ∃ a b c d e f g, l = [a, b, c, d, e, f, g] := by
  match l, h with | [a, b, c, d, e, f, g], _ => exact ⟨a, b, c, d, e, f, g, rfl⟩

theorem trod_exp (hl : cs.length = 2) (h : DataW.trod enc Try.prog w base spare held n 72 cs = some y) (hF : Fits Try.prog 72 y.1) : ∃ x : Exp, cs = x.cells ∧ x.name.size ≤ big := by
  obtain ⟨a, b, rfl⟩ := list2 hl
  have hf := open_fields Try.underlying72 (by kernel_rfl) rfl h
  obtain ⟨_, _, h0, f0⟩ := hf 0 _ _ rfl rfl
  obtain ⟨_, _, h1, _⟩ := hf 1 _ _ rfl rfl
  obtain ⟨s, rfl, hs⟩ := trod_str h0
  obtain ⟨z, rfl⟩ := trod_i h1
  exact ⟨⟨s, z⟩, rfl, hs (f0 hF)⟩
theorem trod_imp (hl : cs.length = 4) (h : DataW.trod enc Try.prog w base spare held n 83 cs = some y) (hF : Fits Try.prog 83 y.1) : ∃ x : Imp, cs = x.cells ∧ x.mod.size ≤ big ∧ x.name.size ≤ big := by
  obtain ⟨a, b, c, d, rfl⟩ := list4 hl
  have hf := open_fields Try.underlying83 (by kernel_rfl) rfl h
  obtain ⟨_, _, h0, f0⟩ := hf 0 _ _ rfl rfl
  obtain ⟨_, _, h1, f1⟩ := hf 1 _ _ rfl rfl
  obtain ⟨_, _, h2, _⟩ := hf 2 _ _ rfl rfl
  obtain ⟨_, _, h3, _⟩ := hf 3 _ _ rfl rfl
  obtain ⟨s, rfl, hs⟩ := trod_str h0
  obtain ⟨t, rfl, ht⟩ := trod_str h1
  obtain ⟨z, rfl⟩ := trod_i h2
  obtain ⟨u, rfl⟩ := trod_i h3
  exact ⟨⟨s, t, z, u⟩, rfl, hs (f0 hF), ht (f1 hF)⟩
theorem trod_pat (hl : cs.length = 4) (h : DataW.trod enc Try.prog w base spare held n 39 cs = some y) (_ : Fits Try.prog 39 y.1) : ∃ x : Pat, cs = x.cells ∧ True := by
  obtain ⟨a, b, c, d, rfl⟩ := list4 hl
  have hf := open_fields Try.underlying39 (by kernel_rfl) rfl h
  obtain ⟨_, _, h0, f0⟩ := hf 0 _ _ rfl rfl
  obtain ⟨_, _, h1, f1⟩ := hf 1 _ _ rfl rfl
  obtain ⟨_, _, h2, _⟩ := hf 2 _ _ rfl rfl
  obtain ⟨_, _, h3, _⟩ := hf 3 _ _ rfl rfl
  obtain ⟨s, rfl⟩ := trod_i h0
  obtain ⟨t, rfl⟩ := trod_i h1
  obtain ⟨z, rfl⟩ := trod_i h2
  obtain ⟨u, rfl⟩ := trod_i h3
  exact ⟨⟨s, t, z, u⟩, rfl, trivial⟩
theorem trod_exps (h : DataW.trod enc Try.prog w base spare held n 22 [c] = some y) (hF : Fits Try.prog 22 y.1) : ∃ (A : Option Addr) (l : List Exp) (cap : Nat), c = .slice A l.length cap ∧ ExpsOk w A l := by
  obtain ⟨A, l, cap, e, h1, h2, h3⟩ := open_row Exp.cells 2 (fun _ => rfl) (by omega) (fun x => x.name.size ≤ big) Try.underlying22 (by decide +kernel) (by kernel_rfl) (fun _ _ _ hl ht hf => trod_exp hl ht hf) h hF
  exact ⟨A, l, cap, e, h3, h1, h2⟩
theorem trod_imps (h : DataW.trod enc Try.prog w base spare held n 31 [c] = some y) (hF : Fits Try.prog 31 y.1) : ∃ (A : Option Addr) (l : List Imp) (cap : Nat), c = .slice A l.length cap ∧ ImpsOk w A l := by
  obtain ⟨A, l, cap, e, h1, h2, h3⟩ := open_row Imp.cells 4 (fun _ => rfl) (by omega) (fun x => x.mod.size ≤ big ∧ x.name.size ≤ big) Try.underlying31 (by decide +kernel) (by kernel_rfl) (fun _ _ _ hl ht hf => trod_imp hl ht hf) h hF
  exact ⟨A, l, cap, e, h3, h1, h2⟩
theorem trod_pats (h : DataW.trod enc Try.prog w base spare held n 32 [c] = some y) (hF : Fits Try.prog 32 y.1) : ∃ (A : Option Addr) (l : List Pat) (cap : Nat), c = .slice A l.length cap ∧ PatsOk w A l := by
  obtain ⟨A, l, cap, e, h1, h2, h3⟩ := open_row Pat.cells 4 (fun _ => rfl) (by omega) (fun _ => True) Try.underlying32 (by decide +kernel) (by kernel_rfl) (fun _ _ _ hl ht hf => trod_pat hl ht hf) h hF
  exact ⟨A, l, cap, e, h3, h1⟩
theorem trod_mod (hl : cs.length = 7) (h : DataW.trod enc Try.prog w base spare held n 34 cs = some y) (hF : Fits Try.prog 34 y.1) : ∃ m : Mod, cs = m.cells ∧ m.ok w := by
  obtain ⟨a, b, c, d, e, f, g, rfl⟩ := list7 hl
  have hf := open_fields Try.underlying34 (by kernel_rfl) rfl h
  obtain ⟨_, _, h0, f0⟩ := hf 0 _ _ rfl rfl
  obtain ⟨_, _, h1, f1⟩ := hf 1 _ _ rfl rfl
  obtain ⟨_, _, h2, f2⟩ := hf 2 _ _ rfl rfl
  obtain ⟨_, _, h3, f3⟩ := hf 3 _ _ rfl rfl
  obtain ⟨_, _, h4, f4⟩ := hf 4 _ _ rfl rfl
  obtain ⟨_, _, h5, f5⟩ := hf 5 _ _ rfl rfl
  obtain ⟨_, _, h6, f6⟩ := hf 6 _ _ rfl rfl
  obtain ⟨s, rfl, hs⟩ := trod_str h0
  obtain ⟨z, rfl⟩ := trod_i h1
  obtain ⟨u, rfl⟩ := trod_i h2
  obtain ⟨t, rfl, ht⟩ := trod_str h3
  obtain ⟨eA, ex, eC, rfl, he⟩ := trod_exps h4 (f4 hF)
  obtain ⟨iA, im, iC, rfl, hi⟩ := trod_imps h5 (f5 hF)
  obtain ⟨pA, pa, pC, rfl, hp⟩ := trod_pats h6 (f6 hF)
  exact ⟨⟨s, z, u, t, ex, im, pa, eA, eC, iA, iC, pA, pC⟩, rfl, he, hi, hp, hs (f0 hF), ht (f3 hF)⟩
set_option maxRecDepth 100000 in
theorem trod_plc (hl : cs.length = 8) (h : DataW.trod enc Try.prog w base spare held n 36 cs = some y) (hF : Fits Try.prog 36 y.1) : ∃ x : Plc, cs = x.cells ∧ x.m.ok w := by
  obtain ⟨xs, n', _, rfl, _, hlx, hg⟩ := DataW.trod_struct Try.underlying36 h
  have g0 : DataW.trod enc Try.prog w base spare held n' 34 ((cs.drop 0).take (Try.prog.cellsOf 34)) = xs[0]? := hg 0 _ rfl
  have g1 : DataW.trod enc Try.prog w base spare held n' 3 ((cs.drop 7).take (Try.prog.cellsOf 3)) = xs[1]? := hg 1 _ rfl
  rw [Try.cellsModule] at g0
  rw [Try.cellsInt] at g1
  obtain ⟨y0, y1, rfl⟩ : ∃ y0 y1, xs = [y0, y1] := by
    match xs, hlx with | [a, b], _ => exact ⟨a, b, rfl⟩
  obtain ⟨m, hm, hok⟩ := trod_mod (by simp [hl]) g0 (fits_agg Try.underlying36 hF (j := 0) rfl rfl)
  rw [drop_take_one cs 7 (by omega)] at g1
  obtain ⟨z, hz⟩ := trod_i g1
  refine ⟨⟨m, z⟩, ?_, hok⟩
  rw [List.drop_zero] at hm
  have : cs = cs.take 7 ++ cs.drop 7 := (List.take_append_drop 7 cs).symm
  rw [this, hm, List.drop_eq_getElem_cons (by omega), hz, List.drop_eq_nil_of_le (by omega)]
  rfl
theorem trod_plcs (h : DataW.trod enc Try.prog w base spare held n 25 [c] = some y) (hF : Fits Try.prog 25 y.1) : ∃ (A : Option Addr) (l : List Plc) (cap : Nat), c = .slice A l.length cap ∧ PlsOk w A l := by
  obtain ⟨A, l, cap, e, h1, h2, h3⟩ := open_row Plc.cells 8 (fun _ => rfl) (by omega) (fun x => x.m.ok w) Try.underlying25 (by decide +kernel) (by kernel_rfl) (fun _ _ _ hl ht hf => trod_plc hl ht hf) h hF
  exact ⟨A, l, cap, e, h3, h1, h2⟩
end

section
variable {H : Type} {enc : TypeId × Value → H} {w : World} {base : Nat} {spare : Nat → Bool} {held : Bool} {r : Reach} {b0 : Nat} {v : Value} {d : DataW H} {p : List MemPlace}
set_option maxRecDepth 100000 in
theorem open_Module (hv : Value.okWide Try.prog w r b0 34 v) (h : DataW.Trod enc Try.prog w base spare held 34 v d p) (hF : Fits Try.prog 34 d) : ∃ m : Mod, v = m.v ∧ m.ok w := by
  obtain ⟨cs, rfl, hsz⟩ := okWide_struct Try.underlying34 hv
  obtain ⟨fuel, hf⟩ := h
  obtain ⟨m, e, hok⟩ := trod_mod (cs := cs.toList) (by rw [Array.length_toList, hsz, Try.cellsModule]) hf hF
  obtain ⟨l⟩ := cs
  exact ⟨m, by simp only at e; rw [e]; rfl, hok⟩
set_option maxRecDepth 100000 in
theorem open_Placed (hv : Value.okWide Try.prog w r b0 36 v) (h : DataW.Trod enc Try.prog w base spare held 36 v d p) (hF : Fits Try.prog 36 d) : ∃ x : Plc, v = x.v ∧ x.m.ok w := by
  obtain ⟨cs, rfl, hsz⟩ := okWide_struct Try.underlying36 hv
  obtain ⟨fuel, hf⟩ := h
  obtain ⟨m, e, hok⟩ := trod_plc (cs := cs.toList) (by rw [Array.length_toList, hsz, Try.cellsPlaced]) hf hF
  obtain ⟨l⟩ := cs
  exact ⟨m, by simp only at e; rw [e]; rfl, hok⟩
set_option maxRecDepth 100000 in
theorem open_Import (hv : Value.okWide Try.prog w r b0 83 v) (h : DataW.Trod enc Try.prog w base spare held 83 v d p) (hF : Fits Try.prog 83 d) : ∃ x : Imp, v = x.v ∧ x.mod.size ≤ big ∧ x.name.size ≤ big := by
  obtain ⟨cs, rfl, hsz⟩ := okWide_struct Try.underlying83 hv
  obtain ⟨fuel, hf⟩ := h
  obtain ⟨m, e, hok⟩ := trod_imp (cs := cs.toList) (by rw [Array.length_toList, hsz, Try.cellsImport]) hf hF
  obtain ⟨l⟩ := cs
  exact ⟨m, by simp only at e; rw [e]; rfl, hok⟩
set_option maxRecDepth 100000 in
theorem open_Kernel (hv : Value.okWide Try.prog w r b0 24 v) (h : DataW.Trod enc Try.prog w base spare held 24 v d p) (hF : Fits Try.prog 24 d) : ∃ x : Krn, v = x.v ∧ x.ok w := by
  obtain ⟨cs, rfl, hsz⟩ := okWide_struct Try.underlying24 hv
  obtain ⟨fuel, hf⟩ := h
  obtain ⟨l⟩ := cs
  obtain ⟨a, b, c, rfl⟩ := list3 (l := l) (by have := hsz.trans Try.cellsKernel; simpa using this)
  have hf' := open_fields Try.underlying24 (by kernel_rfl) rfl hf
  obtain ⟨_, _, h0, f0⟩ := hf' 0 _ _ rfl rfl
  obtain ⟨_, _, h1, f1⟩ := hf' 1 _ _ rfl rfl
  obtain ⟨_, _, h2, f2⟩ := hf' 2 _ _ rfl rfl
  obtain ⟨z, rfl⟩ := trod_i h0
  obtain ⟨u, rfl⟩ := trod_i h1
  obtain ⟨eA, ex, eC, rfl, he⟩ := trod_exps h2 (f2 hF)
  exact ⟨⟨z, u, ex, eA, eC⟩, rfl, ⟨he⟩⟩
set_option maxRecDepth 100000 in
theorem open_Placeds (hv : Value.okWide Try.prog w r b0 25 v) (h : DataW.Trod enc Try.prog w base spare held 25 v d p) (hF : Fits Try.prog 25 d) :
    ∃ (A : Option Addr) (l : List Plc) (cap : Nat), v = .slice A l.length cap ∧ PlsOk w A l := by
  obtain ⟨a, len, cap, rfl⟩ := okWide_slice Try.underlying25 hv
  obtain ⟨fuel, hf⟩ := h
  exact trod_plcs (c := .slice a len cap) hf hF
end

end Go.Proofs.Ytjnfemcfohflnaa
