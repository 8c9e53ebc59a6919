import Derived.Test.YtjiedaialianmaaGreatG12
import Derived.Test.YtjiedaialianmaaGreatG09
import Derived.Laws.CopyRow
import Derived.Lib.Overlaps
import Derived.Lib.AppendZerosOnto
import Derived.Lib.SliceRun
import Derived.Shelf.Spec.SlicesInsert
import Derived.Shelf.RegionOpenPlain
import Derived.Test.YtjiedaialianmaaGreatG13
import Derived.Deep.RegionLaw
import Derived.Test.YtjiedaialianmaaGreatG07
import Derived.Test.YtjiedaialianmaaGreatG11
import Derived.Test.YtjiedaialianmaaGreatG10
section

namespace Go.Proofs.YtjiedaialianmaaGreat
open Go.RowKit Go.Lib

/-- a list with others laid over it from place o on -/
def over {α : Type} (L : List α) (o : Nat) (cs : List α) : List α := L.take o ++ cs ++ L.drop (o + cs.length)
theorem over_length {α : Type} {L : List α} {o : Nat} {cs : List α} (h : o + cs.length ≤ L.length) : (over L o cs).length = L.length := by
  simp [over]; omega
theorem over_take {α : Type} {L : List α} {o : Nat} {cs : List α} (h : o + cs.length ≤ L.length) {k : Nat} (hk : k ≤ o) : (over L o cs).take k = L.take k := by
  unfold over
  rw [List.append_assoc, List.take_append_of_le_length (by rw [List.length_take]; omega), List.take_take, Nat.min_eq_left hk]
theorem over_upto {α : Type} {L : List α} {o : Nat} {cs : List α} (h : o + cs.length ≤ L.length) : (over L o cs).take (o + cs.length) = L.take o ++ cs := by
  unfold over
  rw [List.take_append_of_le_length (by rw [List.length_append, List.length_take]; omega), List.take_of_length_le (by rw [List.length_append, List.length_take]; omega)]
theorem over_drop {α : Type} {L : List α} {o : Nat} {cs : List α} (h : o + cs.length ≤ L.length) : (over L o cs).drop o = cs ++ L.drop (o + cs.length) := by
  have e : (L.take o).length = o := by rw [List.length_take]; omega
  unfold over
  rw [List.append_assoc, List.drop_append_of_le_length (by omega), List.drop_eq_nil_of_le (by omega), List.nil_append]
theorem ins_here {α : Type} {L F Y : List α} {p : Nat} (hp : p ≤ F.length) (hL : L.take F.length = F) (hl : F.length + Y.length ≤ L.length) :
    (over (over L (p + Y.length) (F.drop p)) p Y).take (F.length + Y.length) = F.take p ++ Y ++ F.drop p := by
  have hd : (F.drop p).length = F.length - p := by rw [List.length_drop]
  have h1 : (over L (p + Y.length) (F.drop p)).length = L.length := over_length (by omega)
  have ht : (over L (p + Y.length) (F.drop p)).take p = F.take p := by
    rw [over_take (by omega) (by omega)]
    have := congrArg (List.take p) hL
    rwa [List.take_take, Nat.min_eq_left hp] at this
  have hdr : (over L (p + Y.length) (F.drop p)).drop (p + Y.length) = F.drop p ++ L.drop (p + Y.length + (F.drop p).length) := over_drop (by omega)
  show (List.take p (over L (p + Y.length) (F.drop p)) ++ Y ++ List.drop (p + Y.length) (over L (p + Y.length) (F.drop p))).take _ = _
  rw [ht, hdr, ← List.append_assoc, List.take_append_of_le_length (by simp; omega), List.take_of_length_le (by simp; omega)]
theorem ins_new {α : Type} {R F Y : List α} {p : Nat} (hp : p ≤ F.length) (hR : R.take p = F.take p) (hl : F.length + Y.length ≤ R.length) :
    (over (over R p Y) (p + Y.length) (F.drop p)).take (F.length + Y.length) = F.take p ++ Y ++ F.drop p := by
  have hd : (F.drop p).length = F.length - p := by rw [List.length_drop]
  have h1 : (over R p Y).length = R.length := over_length (by omega)
  have e : F.length + Y.length = p + Y.length + (F.drop p).length := by omega
  rw [e, over_upto (by omega), over_upto (by omega), hR]
theorem del_here {α : Type} {L F Z : List α} {p q : Nat} (hp : p + q ≤ F.length) (hL : L.take F.length = F) (hl : F.length ≤ L.length) (hz : Z.length = q) :
    (over (over L p (F.drop (p + q))) (F.length - q) Z).take (F.length - q) = F.take p ++ F.drop (p + q) := by
  have hd : (F.drop (p + q)).length = F.length - (p + q) := by rw [List.length_drop]
  have h1 : (over L p (F.drop (p + q))).length = L.length := over_length (by omega)
  rw [over_take (by omega) (Nat.le_refl _)]
  have e : F.length - q = p + (F.drop (p + q)).length := by omega
  rw [e, over_upto (by omega)]
  congr 1
  have := congrArg (List.take p) hL
  rwa [List.take_take, Nat.min_eq_left (by omega)] at this

/-- the same with rows of memory -/
abbrev spl (cur : Array Value) (o : Nat) (cs : List Value) : Array Value := (over cur.toList o cs).toArray
theorem spl_size {cur : Array Value} {o : Nat} {cs : List Value} (h : o + cs.length ≤ cur.size) : (spl cur o cs).size = cur.size := by
  show (over cur.toList o cs).toArray.size = _
  rw [List.size_toArray, over_length (by simpa using h), Array.length_toList]
theorem Only.row {w : World} {g : Nat} (cs : Array Value) : Only g w (w.setRow g cs) :=
  ⟨rfl, rfl, rfl, by simp [World.setRow], fun k _ hk => by simp [World.setRow, Array.getElem?_modify, Ne.symm hk]⟩
theorem run_copy_k {P : Program} (w : World) (dT sT ty elem : TypeId) (g o dLen dCap : Nat) (a : Addr) (sLen sCap k n : Nat) (cur : Array Value) (t : TypeId) (cs : List Value)
    (hu : P.underlying dT = some (.slice elem)) (hs : (P.info? elem).map (·.size) = some k)
    (hg : w.heap[g]? = some (.cells cur t (0, 0))) (hn : n = Nat.min sLen dLen) (hlen : cs.length = n * k)
    (hsrc : ∀ j v, cs[j]? = some v → w.cell? (a.add j) = some v) (hfit : o + cs.length ≤ cur.size) (h1 : ∀ v ∈ cs, v.oneCell' = true) :
    (Builtin.copy_ #[dT, sT] ty #[.slice (some ⟨g, o, none⟩) dLen dCap, .slice (some a) sLen sCap]).run P w = .ok (goInt n) (w.setRow g (spl cur o cs)) := by
  have hl := run_loadCells_list (P := P) w a cs hsrc
  have hst := run_storeCells_at P g o t cs 0 cur w hg (by simpa using hfit) h1
  rw [hlen] at hl
  cases hq : P.info? elem with
  | none => simp [hq] at hs
  | some i =>
    have hi : i.size = k := by simpa [hq] using hs
    simp [Builtin.copy_, run_underlying hu, Builtin.lenOf, Builtin.firstCells, sizeOf, typeInfo, hq, hi, ← hn, hl, hst, spl, over]
theorem run_clear_k {P : Program} (w : World) (t e ty : TypeId) (z : Value) (ht : P.underlying t = some (.slice e)) (hv : ∀ w, (zeroValue e).run P w = .ok z w) (g o n c : Nat) (hn : 0 < n) (cur : Array Value) (t' : TypeId) (zs : List Value)
    (hz : (Builtin.zeroCells z.cells n).toList = zs) (hg : w.heap[g]? = some (.cells cur t' (0, 0))) (hfit : o + zs.length ≤ cur.size) (h1 : ∀ v ∈ zs, v.oneCell' = true) :
    (Builtin.clear_ #[t] ty #[.slice (some ⟨g, o, none⟩) n c]).run P w = .ok (.tuple #[]) (w.setRow g (spl cur o zs)) := by
  have hst := run_storeCells_at P g o t' zs 0 cur w hg (by simpa using hfit) h1
  obtain ⟨m, rfl⟩ : ∃ m, n = m + 1 := ⟨n - 1, by omega⟩
  simp [Builtin.clear_, run_underlying ht, hv, hz, hst, spl, over]
theorem step_append_runI {P : Program} {ops : Array Oper} {o : Oper} {a : Act} {w : World} {K : Act → World → Prop} {Q : Exit → Act → World → Prop} {E : Prop}
    (hg : o.guard = none) (d x : Operand) (dT sT : TypeId) (hop : o.op = Op.call { callee := Callee.builtin Builtin.append, args := #[d, x], argTypes := #[dT, sT] })
    (v u : Value) (hd : a.eval d = v) (hx : a.eval x = u) {v' : Value} {w' : World} (hr : (Builtin.append_ #[dT, sT] o.type #[v, u]).run P w = .ok v' w') (hK : K (a.put o.dst v') w') :
    if Region.wanted o (yielded ops a.tmps) = true then Oper.wp P o a w K Q else E := by
  have hw : Region.wanted o (yielded ops a.tmps) = true := by simp [Region.wanted, hg]
  rw [if_pos hw]
  unfold Oper.wp
  simp [execOp, hop, resolve, invoke, builtin, hd, hx, hr, Result.andThen]
  exact hK
theorem plc_cells_len (x : Plc) : x.cells.length = 8 := rfl
theorem plc_take : ∀ (l : List Plc) (i : Nat), (l.flatMap Plc.cells).take (i * 8) = (l.take i).flatMap Plc.cells
  | [], i => by simp
  | x :: l, 0 => by simp
  | x :: l, i + 1 => by
    rw [List.flatMap_cons, List.take_succ_cons, List.flatMap_cons, List.take_append, plc_cells_len, List.take_of_length_le (by rw [plc_cells_len]; omega), show (i + 1) * 8 - 8 = i * 8 by omega, plc_take l i]
theorem plc_drop : ∀ (l : List Plc) (i : Nat), (l.flatMap Plc.cells).drop (i * 8) = (l.drop i).flatMap Plc.cells
  | [], i => by simp
  | x :: l, 0 => by simp
  | x :: l, i + 1 => by
    rw [List.flatMap_cons, List.drop_succ_cons, List.drop_append, plc_cells_len, List.drop_eq_nil_of_le (by rw [plc_cells_len]; omega), List.nil_append, show (i + 1) * 8 - 8 = i * 8 by omega, plc_drop l i]
theorem plc_flat_len (l : List Plc) : (l.flatMap Plc.cells).length = l.length * 8 := flat_length (enc := Plc.cells) (k := 8) (fun _ => rfl) l
/-- the row itself -/
theorem own_cells {w : World} {base g n c : Nat} {l : List Plc} (h : PlcOwn w base (.slice (some ⟨g, 0, none⟩) n c) l) (hn : n = l.length) : ∃ cur : Array Value, base ≤ g ∧ w.heap[g]? = some (.cells cur 83 (0, 0)) ∧ l.length ≤ c ∧ c ≤ maxLen ∧ cur.size = c * 8 ∧ cur.toList.take (l.length * 8) = l.flatMap Plc.cells := by
  subst hn
  rcases h.2 with ⟨h0, _⟩ | ⟨g', cap, cur, e1, e2, e3, e4, e5, e6, e7⟩
  · cases h0
  · injection e1 with e1 _ e8; injection e1 with e1; injection e1 with e1; subst e1 e8
    exact ⟨cur, e2, e3, e4, e5, e6, e7⟩
theorem own_of_cells {w : World} {base g c n : Nat} {l : List Plc} {cur : Array Value} (hb : base ≤ g) (h : w.heap[g]? = some (.cells cur 83 (0, 0))) (hn : n = l.length) (h1 : l.length ≤ c) (h2 : c ≤ maxLen) (h3 : cur.size = c * 8) (h4 : cur.toList.take (l.length * 8) = l.flatMap Plc.cells) : PlcOwn w base (.slice (some ⟨g, 0, none⟩) n c) l := by
  subst hn
  exact ⟨plc_flat_len l, .inr ⟨g, c, cur, rfl, hb, h, h1, h2, h3, h4⟩⟩
theorem plc_own_cell {w : World} {g : Nat} {cur : Array Value} {t : TypeId} {F : List Value} {k : Nat} (hg : w.heap[g]? = some (.cells cur t (0, 0))) (hF : cur.toList.take k = F) : ∀ j v, F[j]? = some v → w.cell? ⟨g, j, none⟩ = some v := fun j v hj => by
  rw [← hF, List.getElem?_take] at hj
  split at hj
  · simp [World.cell?, hg]; simpa using hj
  · cases hj

end Go.Proofs.YtjiedaialianmaaGreat
end

section

namespace Go.Proofs.YtjiedaialianmaaGreat
open Go.RowKit Go.Lib

theorem wpList_plcs (W : World) {ops : Array Oper} {rest : List Oper} {o : Oper} {a : Act} {Q : Exit → Act → World → Prop} (hgd : o.guard = none) (s x : Operand)
    (ho : o.op = .call { callee := .builtin .append, args := #[s, x], argTypes := #[37, 37] }) (base : Nat) (v : Value) (l0 : List Plc) (hs : a.eval s = v) (hown : PlcOwn W base v l0)
    (A : Option Addr) (c : Nat) (l1 : List Plc) (hx : a.eval x = .slice A l1.length c) (hr : Row Plc.cells 8 W A l1) (hlen : l0.length + l1.length ≤ 1000000) (hbase : base ≤ W.heap.size)
    (h : ∀ v' w', PlcOwn w' base v' (l0 ++ l1) → Below base W w' → W.grownBy w' v.ownBlock → wpList Tryz.prog ops Q rest (a.put o.dst v') w') : wpList Tryz.prog ops Q (o :: rest) a W :=
  wpList_plain hgd fun _ hK => wp_plcs W s x ho base v l0 hs hown A c l1 hx hr hlen hbase fun v' w' h1 h2 h3 => hK _ _ (h v' w' h1 h2 h3)
theorem one_row (W : World) (x : Plc) : Row Plc.cells 8 (W.alloc (.cells #[.string x.m.name, .int .i64 x.m.major, .int .i64 x.m.minor, .string x.m.text, .slice x.m.eA x.m.ex.length x.m.eC, .slice x.m.iA x.m.im.length x.m.iC, .slice x.m.pA x.m.pa.length x.m.pC, .int .i64 x.first] 83)) (some ⟨W.heap.size, 0, none⟩) [x] :=
  row_block (enc := Plc.cells) (k := 8) (fun _ => rfl) (heap_alloc_new W _) rfl
theorem erase_take {l : List Plc} {j n : Nat} (h : j < l.length) : (l.take (j + 1)).eraseIdx n = if j = n then (l.take j).eraseIdx n else (l.take j).eraseIdx n ++ [l[j]] := by
  rw [List.take_succ_eq_append_getElem h]
  have hl : (l.take j).length = j := by rw [List.length_take]; omega
  by_cases e : j = n
  · rw [if_pos e, List.eraseIdx_append_of_length_le (by omega), hl, show n - j = 0 by omega, List.eraseIdx_of_length_le (by omega : (l.take j).length ≤ n)]
    simp
  · rw [if_neg e]
    rcases Nat.lt_or_ge n j with h1 | h1
    · rw [List.eraseIdx_append_of_lt_length (by omega)]
    · rw [List.eraseIdx_append_of_length_le (by omega), hl, List.eraseIdx_of_length_le (by omega : (l.take j).length ≤ n)]
      obtain ⟨d, hd⟩ : ∃ d, n - j = d + 1 := ⟨n - j - 1, by omega⟩
      rw [hd]; rfl

set_option maxHeartbeats 4000000 in
set_option maxRecDepth 100000 in
theorem without_any (A : Option Addr) (c : Nat) (l : List Plc) (n : Nat) (w : World) (h : PlsOk w A l) (h8 : l.length ≤ 1000) :
    Calls Tryz.prog 110 #[.slice A l.length c, .int .i64 n] w fun e w' => (∃ A' c', e = .returned (.slice A' (l.eraseIdx n).length c') ∧ PlcOwn w' w.heap.size (.slice A' (l.eraseIdx n).length c') (l.eraseIdx n)) ∧ Below w.heap.size w w' := by
  have HP := Lib.hid h
  clear h
  go_enter Tryz.func110, Tryz.ntmps110
  go_wp2_with fail
  go_loopw [5, 6] (fun v i wr => ∃ j : Nat, j ≤ l.length ∧ i = .int .i64 j ∧ PlcOwn wr w.heap.size v ((l.take j).eraseIdx n) ∧ Below w.heap.size w wr) (fun _ i _ => l.length - (intOf i).toNat)
  case atStart => exact ⟨0, by omega, rfl, World.ownsRow_nil _ _ _ _, Below.refl _ _⟩
  case round =>
    obtain ⟨j, hj, rfl, ho, hb⟩ := hrel
    have HB := Lib.hid hb
    have HO := Lib.hid ho
    by_cases hlt : j < l.length
    · have hlt' : (j : Int) < l.length := by omega
      have hE := erase_take (n := n) hlt
      obtain ⟨ad, rfl, hab, p0, p1, p2, p3, p4, p5, p6, p7⟩ := plc_at HP.out.row hb j hlt
      by_cases e : j = n
      · rw [if_pos e] at hE
        have HE := Lib.hid hE
        have e' : ((j : Int) != (n : Int)) = false := by simp [e]
        clear ho hb hE e
        go_wp2_with fail
        go_roundw
        case rel => exact ⟨j + 1, by omega, by go_num, by rw [HE.out]; exact HO.out, HB.out⟩
        case measure => (simp [intOf]; try omega)
      · rw [if_neg e] at hE
        obtain ⟨y, hy⟩ : ∃ y, y = l[j]'hlt := ⟨_, rfl⟩
        simp only [← hy] at p0 p1 p2 p3 p4 p5 p6 p7 hE
        have HE := Lib.hid hE
        have e' : ((j : Int) != (n : Int)) = true := by simp; omega
        have HL := Lib.hid (show ((l.take j).eraseIdx n).length + ([y] : List Plc).length ≤ 1000000 by
          have := List.length_eraseIdx_le (l.take j) n
          rw [List.length_take] at this
          simp only [List.length_singleton]; omega)
        have HS := Lib.hid (show ∀ o, w.heap.size ≤ (wr.alloc o).heap.size from fun o => Nat.le_trans hb.size ((Below.refl wr.heap.size wr).alloc (Nat.le_refl _) o).size)
        have HOA := Lib.hid (show ∀ o, PlcOwn (wr.alloc o) w.heap.size u5 ((l.take j).eraseIdx n) from fun o => World.ownsRow.alloc ho o)
        have HBA := Lib.hid (show ∀ o, Below w.heap.size w (wr.alloc o) from fun o => hb.trans ((Below.refl wr.heap.size wr).alloc (Nat.le_refl _) o |>.mono hb.size))
        have HROW := Lib.hid (one_row wr y)
        clear ho hb hE e hy
        go_wp2_with (at_builtin; refine wpList_plcs (wr.alloc (.cells #[.string y.m.name, .int .i64 y.m.major, .int .i64 y.m.minor, .string y.m.text, .slice y.m.eA y.m.ex.length y.m.eC, .slice y.m.iA y.m.im.length y.m.iC, .slice y.m.pA y.m.pa.length y.m.pC, .int .i64 y.first] 83)) rfl _ _ rfl w.heap.size u5 ((l.take j).eraseIdx n) rfl (HOA.out _) (some ⟨wr.heap.size, 0, none⟩) 1 [y] rfl HROW.out HL.out (HS.out _) ?_; intro v' w3 ho3 hb3 _; have HO3 := Lib.hid ho3; have HB3 := Lib.hid ((HBA.out _).trans hb3); clear ho3 hb3)
        go_roundw
        case rel => exact ⟨j + 1, by omega, by go_num, by rw [HE.out]; exact HO3.out, HB3.out⟩
        case measure => (simp [intOf]; try omega)
    · obtain rfl : j = l.length := by omega
      rw [List.take_length] at ho
      obtain ⟨A', c', rfl⟩ := own_slice ho
      have HO2 := Lib.hid ho
      clear ho hb
      go_wp2_with fail
      go_ret
      exact ⟨⟨A', c', rfl, HO2.out⟩, HB.out⟩

/-- with one more, where it belongs -/
def withL (l : List Plc) (m : Mod) (first : Int) : List Plc := l.takeWhile (fun x => decide (x.first ≤ first)) ++ ⟨m, first⟩ :: l.dropWhile (fun x => decide (x.first ≤ first))
/-- the same, so far: put already? -/
def withTo (l : List Plc) (m : Mod) (first : Int) (j : Nat) : Bool × List Plc :=
  if (l.take j).all (fun x => decide (x.first ≤ first)) then (false, l.take j) else (true, withL (l.take j) m first)
theorem tw_all {α : Type} {p : α → Bool} : ∀ {l : List α}, l.all p = true → l.takeWhile p = l ∧ l.dropWhile p = []
  | [], _ => ⟨rfl, rfl⟩
  | x :: l, h => by
    rw [List.all_cons, Bool.and_eq_true] at h
    obtain ⟨h1, h2⟩ := h
    obtain ⟨i1, i2⟩ := tw_all h2
    rw [List.takeWhile_cons, List.dropWhile_cons, h1]
    exact ⟨by simp [i1], by simp [i2]⟩
theorem tw_snoc {α : Type} {p : α → Bool} : ∀ {l : List α} (y : α), l.all p = false → (l ++ [y]).takeWhile p = l.takeWhile p ∧ (l ++ [y]).dropWhile p = l.dropWhile p ++ [y]
  | [], _, h => by simp at h
  | x :: l, y, h => by
    rw [List.cons_append, List.takeWhile_cons, List.dropWhile_cons, List.takeWhile_cons, List.dropWhile_cons]
    cases hx : p x
    · exact ⟨rfl, rfl⟩
    · rw [List.all_cons, hx, Bool.true_and] at h
      obtain ⟨i1, i2⟩ := tw_snoc y h
      exact ⟨by simp [i1], by simp [i2]⟩
theorem tw_new {α : Type} {p : α → Bool} : ∀ {l : List α} (y : α), l.all p = true → p y = false → (l ++ [y]).takeWhile p = l ∧ (l ++ [y]).dropWhile p = [y]
  | [], y, _, hy => by simp [hy]
  | x :: l, y, h, hy => by
    rw [List.all_cons, Bool.and_eq_true] at h
    obtain ⟨i1, i2⟩ := tw_new y h.2 hy
    rw [List.cons_append, List.takeWhile_cons, List.dropWhile_cons, h.1]
    exact ⟨by simp [i1], by simp [i2]⟩
theorem withTo_step {l : List Plc} {m : Mod} {first : Int} {j : Nat} (h : j < l.length) :
    withTo l m first (j + 1) = if (withTo l m first j).1 = false ∧ first < l[j].first then (true, (withTo l m first j).2 ++ [⟨m, first⟩] ++ [l[j]]) else ((withTo l m first j).1, (withTo l m first j).2 ++ [l[j]]) := by
  unfold withTo
  rw [List.take_succ_eq_append_getElem h, List.all_append]
  cases ha : (l.take j).all (fun x => decide (x.first ≤ first))
  · obtain ⟨i1, i2⟩ := tw_snoc (p := fun x : Plc => decide (x.first ≤ first)) l[j] ha
    simp only [Bool.false_and, Bool.false_eq_true, if_false]
    rw [if_neg (by simp)]
    unfold withL
    rw [i1, i2]; simp
  · simp only [Bool.true_and, if_true]
    by_cases hb : l[j].first ≤ first
    · rw [if_pos (by simp [hb]), if_neg (by simp; omega)]
    · rw [if_neg (by simp [hb]), if_pos ⟨by trivial, by omega⟩]
      obtain ⟨i1, i2⟩ := tw_new (p := fun x : Plc => decide (x.first ≤ first)) l[j] ha (by simp; omega)
      unfold withL
      rw [i1, i2]; simp
theorem withTo_end (l : List Plc) (m : Mod) (first : Int) : withL l m first = if (withTo l m first l.length).1 = false then (withTo l m first l.length).2 ++ [⟨m, first⟩] else (withTo l m first l.length).2 := by
  unfold withTo
  rw [List.take_length]
  cases ha : l.all (fun x => decide (x.first ≤ first))
  · simp
  · obtain ⟨i1, i2⟩ := tw_all (p := fun x : Plc => decide (x.first ≤ first)) ha
    simp only [if_true]
    unfold withL
    rw [i1, i2]
theorem withTo_len (l : List Plc) (m : Mod) (first : Int) (j : Nat) : (withTo l m first j).2.length ≤ l.length + 1 := by
  unfold withTo
  split
  · rw [List.length_take]; omega
  · unfold withL
    have h1 : (l.take j).takeWhile (fun x => decide (x.first ≤ first)) ++ (l.take j).dropWhile (fun x => decide (x.first ≤ first)) = l.take j := List.takeWhile_append_dropWhile
    have h2 := congrArg List.length h1
    rw [List.length_append, List.length_take] at h2
    simp only [List.length_append, List.length_cons]
    omega

/-- what is told of the two appends of a round -/
theorem grow_facts {w wr : World} {base : Nat} {v : Value} {l0 : List Plc} (ho : PlcOwn wr base v l0) (hb : Below base w wr) (hs : base ≤ wr.heap.size) (x : Plc) (hl : l0.length ≤ 1000) :
    Hid (∀ o, PlcOwn (wr.alloc o) base v l0) ∧ Hid (∀ o, Below base w (wr.alloc o)) ∧ Hid (∀ o, base ≤ (wr.alloc o).heap.size) ∧ Hid (l0.length + ([x] : List Plc).length ≤ 1000000) ∧
    Hid (Row Plc.cells 8 (wr.alloc (.cells #[.string x.m.name, .int .i64 x.m.major, .int .i64 x.m.minor, .string x.m.text, .slice x.m.eA x.m.ex.length x.m.eC, .slice x.m.iA x.m.im.length x.m.iC, .slice x.m.pA x.m.pa.length x.m.pC, .int .i64 x.first] 83)) (some ⟨wr.heap.size, 0, none⟩) [x]) :=
  ⟨Lib.hid fun o => World.ownsRow.alloc ho o, Lib.hid fun o => hb.alloc hs o, Lib.hid fun o => Nat.le_trans hs ((Below.refl wr.heap.size wr).alloc (Nat.le_refl _) o).size, Lib.hid (by simp only [List.length_singleton]; omega), Lib.hid (one_row wr x)⟩

set_option maxHeartbeats 8000000 in
set_option maxRecDepth 100000 in
theorem with_any (A : Option Addr) (c : Nat) (l : List Plc) (m : Mod) (first : Int) (w : World) (h : PlsOk w A l) (h8 : l.length ≤ 100) :
    Calls Tryz.prog 108 #[.slice A l.length c, m.v, .int .i64 first] w fun e w' => (∃ A' c', e = .returned (.slice A' (withL l m first).length c') ∧ PlcOwn w' w.heap.size (.slice A' (withL l m first).length c') (withL l m first)) ∧ Below w.heap.size w w' := by
  obtain ⟨w0, hw0⟩ : ∃ w0, w0 = w.alloc (.cells #[.string m.name, .int .i64 m.major, .int .i64 m.minor, .string m.text, .slice m.eA m.ex.length m.eC, .slice m.iA m.im.length m.iC, .slice m.pA m.pa.length m.pC] 70) := ⟨_, rfl⟩
  obtain ⟨f0, f1, f2, f3, f4, f5, f6, hz, hb0⟩ := box7 hw0
  have H0 := Lib.hid hb0
  have HZ := Lib.hid hz
  have HP := Lib.hid h
  have HM := Lib.hid (And.intro f0 (And.intro f1 (And.intro f2 (And.intro f3 (And.intro f4 (And.intro f5 f6))))))
  have hw0' := hw0.symm
  clear hw0 hb0 hz h f0 f1 f2 f3 f4 f5 f6
  go_enter Tryz.func108, Tryz.ntmps108
  go_wp2_with fail
  go_loopw [7, 8, 9] (fun v pt i wr => ∃ j : Nat, j ≤ l.length ∧ i = .int .i64 j ∧ pt = .bool (withTo l m first j).1 ∧ PlcOwn wr (w.heap.size + 1) v (withTo l m first j).2 ∧ Below (w.heap.size + 1) w0 wr) (fun _ _ i _ => l.length - (intOf i).toNat)
  case atStart => exact ⟨0, by omega, rfl, rfl, World.ownsRow_nil _ _ _ _, Below.refl _ _⟩
  case round =>
    obtain ⟨j, hj, rfl, rfl, ho, hb⟩ := hrel
    have HB := Lib.hid hb
    have hbw : Below w.heap.size w wr := H0.out.trans (hb.mono (by omega))
    have hsz : w.heap.size + 1 ≤ wr.heap.size := by have := hb.size; have := HZ.out; omega
    have hlen := withTo_len l m first j
    have n0 := (hb.cell (p := ⟨w.heap.size, 0, none⟩) (by simp)).trans HM.out.1
    have n1 := (hb.cell (p := ⟨w.heap.size, 1, none⟩) (by simp)).trans HM.out.2.1
    have n2 := (hb.cell (p := ⟨w.heap.size, 2, none⟩) (by simp)).trans HM.out.2.2.1
    have n3 := (hb.cell (p := ⟨w.heap.size, 3, none⟩) (by simp)).trans HM.out.2.2.2.1
    have n4 := (hb.cell (p := ⟨w.heap.size, 4, none⟩) (by simp)).trans HM.out.2.2.2.2.1
    have n5 := (hb.cell (p := ⟨w.heap.size, 5, none⟩) (by simp)).trans HM.out.2.2.2.2.2.1
    have n6 := (hb.cell (p := ⟨w.heap.size, 6, none⟩) (by simp)).trans HM.out.2.2.2.2.2.2
    by_cases hlt : j < l.length
    · have hlt' : (j : Int) < l.length := by omega
      have hE := withTo_step (m := m) (first := first) hlt
      obtain ⟨ad, rfl, hab, p0, p1, p2, p3, p4, p5, p6, p7⟩ := plc_at HP.out.row hbw j hlt
      obtain ⟨y, hy⟩ : ∃ y, y = l[j]'hlt := ⟨_, rfl⟩
      simp only [← hy] at p0 p1 p2 p3 p4 p5 p6 p7 hE
      obtain ⟨T, hT⟩ : ∃ T, T = withTo l m first j := ⟨_, rfl⟩
      rw [← hT] at hE ho hlen ⊢
      obtain ⟨bp, L⟩ := T
      simp only at hE ho hlen ⊢
      have KJ := Lib.hid (fun W (hbW : Below w.heap.size w W) => hy ▸ plc_at HP.out.row hbW j hlt)
      by_cases hc : bp = false ∧ first < y.first
      · obtain ⟨rfl, hc2⟩ := hc
        rw [if_pos ⟨rfl, hc2⟩] at hE
        have HE := Lib.hid hE
        obtain ⟨HOA, HBA, HSA, HLA, HRA⟩ := grow_facts ho hb hsz ⟨m, first⟩ (by omega)
        have hlen2 := hlen
        clear ho hb hbw hE hT hy
        have HLEN := Lib.hid (show (L ++ [(⟨m, first⟩ : Plc)]).length ≤ 1000 by rw [List.length_append, List.length_singleton]; omega)
        have HSZ0 := Lib.hid (show w.heap.size + 1 ≤ w0.heap.size by have := HZ.out; omega)
        clear hlen hlen2
        go_wp2_with (first
          | (at_builtin; refine wpList_plcs (wr.alloc (.cells #[.string m.name, .int .i64 m.major, .int .i64 m.minor, .string m.text, .slice m.eA m.ex.length m.eC, .slice m.iA m.im.length m.iC, .slice m.pA m.pa.length m.pC, .int .i64 first] 83)) rfl _ _ rfl (w.heap.size + 1) u7 L rfl (HOA.out _) (some ⟨wr.heap.size, 0, none⟩) 1 [⟨m, first⟩] rfl HRA.out HLA.out (HSA.out _) ?_; intro v1 w3 ho3 hb3 _; have HB3 := Lib.hid ((HBA.out _).trans hb3); have hs3 := Nat.le_trans HSZ0.out HB3.out.size; obtain ⟨HOA3, HBA3, HSA3, HLA3, HRA3⟩ := grow_facts ho3 HB3.out hs3 y HLEN.out; obtain ⟨_, ea, _, q0, q1, q2, q3, q4, q5, q6, q7⟩ := KJ.out w3 (H0.out.trans (HB3.out.mono (Nat.le_succ _))); obtain rfl := Option.some.inj ea; clear ho3 hb3)
          | (at_builtin; refine wpList_plcs (w3.alloc (.cells #[.string y.m.name, .int .i64 y.m.major, .int .i64 y.m.minor, .string y.m.text, .slice y.m.eA y.m.ex.length y.m.eC, .slice y.m.iA y.m.im.length y.m.iC, .slice y.m.pA y.m.pa.length y.m.pC, .int .i64 y.first] 83)) rfl _ _ rfl (w.heap.size + 1) v1 (L ++ [⟨m, first⟩]) rfl (HOA3.out _) (some ⟨w3.heap.size, 0, none⟩) 1 [y] rfl HRA3.out HLA3.out (HSA3.out _) ?_; intro v2 w4 ho4 hb4 _; have HO4 := Lib.hid ho4; have HB4 := Lib.hid ((HBA3.out _).trans hb4); clear ho4 hb4))
        go_roundw
        case rel => exact ⟨j + 1, by omega, by go_num, by rw [HE.out], by rw [HE.out]; exact HO4.out, HB4.out⟩
        case measure => (simp [intOf]; try omega)
      · rw [if_neg hc] at hE
        have HE := Lib.hid hE
        obtain ⟨HOA, HBA, HSA, HLA, HRA⟩ := grow_facts ho hb hsz y (by omega)
        cases bp
        · have hf : ¬ first < y.first := fun q => hc ⟨rfl, q⟩
          clear ho hb hbw hE hT hy hc hlen
          go_wp2_with (at_builtin; refine wpList_plcs (wr.alloc (.cells #[.string y.m.name, .int .i64 y.m.major, .int .i64 y.m.minor, .string y.m.text, .slice y.m.eA y.m.ex.length y.m.eC, .slice y.m.iA y.m.im.length y.m.iC, .slice y.m.pA y.m.pa.length y.m.pC, .int .i64 y.first] 83)) rfl _ _ rfl (w.heap.size + 1) u7 L rfl (HOA.out _) (some ⟨wr.heap.size, 0, none⟩) 1 [y] rfl HRA.out HLA.out (HSA.out _) ?_; intro v1 w3 ho3 hb3 _; have HO3 := Lib.hid ho3; have HB3 := Lib.hid ((HBA.out _).trans hb3); clear ho3 hb3)
          go_roundw
          case rel => exact ⟨j + 1, by omega, by go_num, by rw [HE.out], by rw [HE.out]; exact HO3.out, HB3.out⟩
          case measure => (simp [intOf]; try omega)
        · clear ho hb hbw hE hT hy hc hlen
          go_wp2_with (at_builtin; refine wpList_plcs (wr.alloc (.cells #[.string y.m.name, .int .i64 y.m.major, .int .i64 y.m.minor, .string y.m.text, .slice y.m.eA y.m.ex.length y.m.eC, .slice y.m.iA y.m.im.length y.m.iC, .slice y.m.pA y.m.pa.length y.m.pC, .int .i64 y.first] 83)) rfl _ _ rfl (w.heap.size + 1) u7 L rfl (HOA.out _) (some ⟨wr.heap.size, 0, none⟩) 1 [y] rfl HRA.out HLA.out (HSA.out _) ?_; intro v1 w3 ho3 hb3 _; have HO3 := Lib.hid ho3; have HB3 := Lib.hid ((HBA.out _).trans hb3); clear ho3 hb3)
          go_roundw
          case rel => exact ⟨j + 1, by omega, by go_num, by rw [HE.out], by rw [HE.out]; exact HO3.out, HB3.out⟩
          case measure => (simp [intOf]; try omega)
    · obtain rfl : j = l.length := by omega
      have hE := withTo_end l m first
      obtain ⟨T, hT⟩ : ∃ T, T = withTo l m first l.length := ⟨_, rfl⟩
      rw [← hT] at hE ho hlen ⊢
      obtain ⟨bp, L⟩ := T
      simp only at hE ho hlen ⊢
      cases bp
      · rw [if_pos (by trivial)] at hE
        have HE := Lib.hid hE
        obtain ⟨HOA, HBA, HSA, HLA, HRA⟩ := grow_facts ho hb hsz ⟨m, first⟩ (by omega)
        clear ho hb hbw hE hT hlen
        go_wp2_with (at_builtin; refine wpList_plcs (wr.alloc (.cells #[.string m.name, .int .i64 m.major, .int .i64 m.minor, .string m.text, .slice m.eA m.ex.length m.eC, .slice m.iA m.im.length m.iC, .slice m.pA m.pa.length m.pC, .int .i64 first] 83)) rfl _ _ rfl (w.heap.size + 1) u7 L rfl (HOA.out _) (some ⟨wr.heap.size, 0, none⟩) 1 [⟨m, first⟩] rfl HRA.out HLA.out (HSA.out _) ?_; intro v1 w3 ho3 hb3 _; obtain ⟨A3, c3, rfl⟩ := own_slice ho3; have HO3 := Lib.hid ho3; have HB3 := Lib.hid ((HBA.out _).trans hb3); clear ho3 hb3)
        go_ret
        rw [HE.out]
        exact ⟨⟨A3, c3, by show Ending.returned (Value.slice A3 (L.length + 1) c3) = _; rw [List.length_append, List.length_singleton], ownM_le HO3.out (Nat.le_succ _)⟩, H0.out.trans (HB3.out.mono (Nat.le_succ _))⟩
      · rw [if_neg (by simp)] at hE
        have HE := Lib.hid hE
        obtain ⟨A3, c3, rfl⟩ := own_slice ho
        have HO3 := Lib.hid ho
        clear ho hb hbw hE hT hlen
        go_wp2_with fail
        go_ret
        rw [HE.out]
        exact ⟨⟨A3, c3, rfl, ownM_le HO3.out (Nat.le_succ _)⟩, H0.out.trans (HB.out.mono (Nat.le_succ _))⟩

end Go.Proofs.YtjiedaialianmaaGreat
end

section

namespace Go.Proofs.YtjiedaialianmaaGreat
open Go.RowKit Go.Lib

abbrev plcA (y : Plc) : Array Value := #[.string y.m.name, .int .i64 y.m.major, .int .i64 y.m.minor, .string y.m.text, .slice y.m.eA y.m.ex.length y.m.eC, .slice y.m.iA y.m.im.length y.m.iC, .slice y.m.pA y.m.pa.length y.m.pC, .int .i64 y.first]
theorem plcA_cell {w : World} {vb : Nat} {y : Plc} {t : TypeId} (hv : w.heap[vb]? = some (.cells (plcA y) t (0, 0))) : ∀ j v, y.cells[j]? = some v → w.cell? ⟨vb, j, none⟩ = some v :=
  plc_own_cell (F := y.cells) (k := 8) hv rfl
theorem plc_one1 (y : Plc) : ∀ v ∈ y.cells, v.oneCell' = true := fun v hv => plc_one [y] v (by simpa using hv)
theorem add_lit0 (b j : Nat) : (⟨b, 0, none⟩ : Addr).add j = ⟨b, j, none⟩ := by rw [Addr.add_lit, Nat.zero_add]

set_option maxHeartbeats 8000000 in
set_option maxRecDepth 100000 in
theorem Insert_grow (base g c i n vb : Nat) (l : List Plc) (y : Plc) (w : World) (cur : Array Value) (hg : w.heap[g]? = some (.cells cur 83 (0, 0))) (_hsz : cur.size = c * 8) (hct : cur.toList.take (l.length * 8) = l.flatMap Plc.cells)
    (hbase : base ≤ w.heap.size) (hn : n = l.length) (hnc : n ≤ c) (hi : i < n) (h8 : n ≤ 1000) (hroom : c < n + 1) (hv : w.heap[vb]? = some (.cells (plcA y) 83 (0, 0))) :
    Calls Tryz.prog 271 #[.slice (some ⟨g, 0, none⟩) n c, .int .i64 i, .slice (some ⟨vb, 0, none⟩) 1 1] w fun e w' =>
      (∃ A' c', e = .returned (.slice A' (n + 1) c') ∧ PlcOwn w' base (.slice A' (n + 1) c') (l.take i ++ y :: l.drop i)) ∧ Below w.heap.size w w' := by
  obtain ⟨i0, hi0, hz0, hzs, hzb⟩ := info_parts Tryz.infoPlc
  have hcn : c = n := by omega
  have hgw := (Array.getElem?_eq_some_iff.1 hg).1
  have hvw := (Array.getElem?_eq_some_iff.1 hv).1
  obtain ⟨F, hF⟩ : ∃ F, F = l.flatMap Plc.cells := ⟨_, rfl⟩
  have hFl : F.length = n * 8 := by rw [hF, hn]; exact plc_flat_len l
  rw [← hF] at hct
  have hFc : ∀ j v, F[j]? = some v → w.cell? ⟨g, j, none⟩ = some v := plc_own_cell hg hct
  have hF1 : ∀ v ∈ F, v.oneCell' = true := by rw [hF]; exact plc_one l
  have hold : (Builtin.firstCells i0.size i (.slice (some ⟨g, 0, none⟩) i c)).run Tryz.prog w.drew = .ok (F.take (i * 8)).toArray w.drew := by
    rw [hzs]
    exact run_firstCells_some w.drew 8 i ⟨g, 0, none⟩ i c (F.take (i * 8)) (by rw [List.length_take]; omega) (fun j v hj => by
      rw [add_lit0]
      rw [List.getElem?_take] at hj
      split at hj
      · exact hFc j v hj
      · cases hj)
  have hrz : ∀ ty, (Builtin.append_ #[37, 3] ty #[.slice (some ⟨g, 0, none⟩) i c, .int .i64 ((n : Int) + 1 - (i : Int))]).run Tryz.prog w =
      .ok (.slice (some ⟨w.heap.size, 0, none⟩) (n + 1) (grownCap w (n + 1) c 83)) (w.drew.alloc (.cells ((F.take (i * 8)).toArray ++ Builtin.zeroCells zeroPlc.cells (n + 1 - i) ++ Builtin.zeroCells zeroPlc.cells (grownCap w (n + 1) c 83 - (n + 1))) 83)) := fun ty => by
    have h := Lib.run_append_grow_zeros w 37 3 ty 83 i0 zeroPlc .i64 .i64 Tryz.underlying37 Tryz.underlying3 hi0 hz0 (some ⟨g, 0, none⟩) i c (F.take (i * 8)) hold (n + 1 - i) (by omega) (by omega) (by omega) (by omega) (by rw [hzb]; omega) (by rw [hzb, show i + (n + 1 - i) = n + 1 by omega]; exact growslice_fits hroom (by omega))
    rw [show i + (n + 1 - i) = n + 1 by omega, show ((n + 1 - i : Nat) : Int) = (n : Int) + 1 - (i : Int) by omega] at h
    exact h
  obtain ⟨G, hG⟩ : ∃ G, G = grownCap w (n + 1) c 83 := ⟨_, rfl⟩
  have hGn : n + 1 ≤ G := by rw [hG]; exact grownCap_ge w _ _ _
  have hGm : G ≤ maxLen := by rw [hG]; exact grownCap_le_maxLen w (n + 1) c 83 (by unfold maxLen; omega)
  obtain ⟨ROW, hROW⟩ : ∃ ROW : Array Value, ROW = (F.take (i * 8)).toArray ++ Builtin.zeroCells zeroPlc.cells (n + 1 - i) ++ Builtin.zeroCells zeroPlc.cells (G - (n + 1)) := ⟨_, rfl⟩
  rw [← hG] at hrz
  rw [← hROW] at hrz
  have hRl : ROW.size = G * 8 := by
    rw [hROW]
    simp [Builtin.zeroCells, Value.cells, hFl]
    omega
  have hRt : ROW.toList.take (i * 8) = F.take (i * 8) := by
    rw [hROW]
    simp only [Array.toList_append, List.append_assoc]
    rw [List.take_append_of_le_length (by simp [hFl]; omega), List.take_of_length_le (by simp; omega)]
  obtain ⟨W1, hW1⟩ : ∃ W1, W1 = w.drew.alloc (.cells ROW 83) := ⟨_, rfl⟩
  rw [← hW1] at hrz
  have hg1 : W1.heap[w.heap.size]? = some (.cells ROW 83 (0, 0)) := by rw [hW1]; exact heap_alloc_new w.drew _
  have hb1 : Below w.heap.size w W1 := by rw [hW1]; exact (Below.refl _ w).drew.alloc (Nat.le_refl _) _
  have hv1 : W1.heap[vb]? = some (.cells (plcA y) 83 (0, 0)) := (hb1.block vb hvw).trans hv
  have hYl : y.cells.length = 8 := rfl
  have hcpA : ∀ ty dc, (Builtin.copy_ #[37, 37] ty #[.slice (some ⟨w.heap.size, i * 8, none⟩) (n + 1 - i) dc, .slice (some ⟨vb, 0, none⟩) 1 1]).run Tryz.prog W1 = .ok (goInt 1) (W1.setRow w.heap.size (spl ROW (i * 8) y.cells)) := fun ty dc =>
    run_copy_k W1 _ _ ty 83 w.heap.size (i * 8) (n + 1 - i) dc ⟨vb, 0, none⟩ 1 1 8 1 ROW 83 y.cells Tryz.underlying37 Tryz.sizePlc hg1 (by simp only [Nat.min_def]; split <;> omega) rfl
      (fun j v hj => by rw [add_lit0]; exact plcA_cell hv1 j v hj) (by rw [hYl, hRl]; omega) (plc_one1 y)
  obtain ⟨W2, hW2⟩ : ∃ W2, W2 = W1.setRow w.heap.size (spl ROW (i * 8) y.cells) := ⟨_, rfl⟩
  rw [← hW2] at hcpA
  have hg2 : W2.heap[w.heap.size]? = some (.cells (spl ROW (i * 8) y.cells) 83 (0, 0)) := by rw [hW2]; exact setRow_heap W1 _ _ _ _ _ hg1
  have ho2 : Only w.heap.size W1 W2 := hW2 ▸ Only.row _
  have hb2 : Below w.heap.size w W2 := hb1.trans (ho2.below (Nat.le_of_lt (Array.getElem?_eq_some_iff.1 hg1).1))
  have hF2 : ∀ j v, F[j]? = some v → W2.drew.cell? ⟨g, j, none⟩ = some v := fun j v hj => (World.cell?_of_block (w := w) (w' := W2.drew) (hb2.block g hgw)).trans (hFc j v hj)
  have hdl : (F.drop (i * 8)).length = (n - i) * 8 := by rw [List.length_drop, hFl]; omega
  have hsp : (spl ROW (i * 8) y.cells).size = G * 8 := by
    rw [← hRl]
    exact spl_size (by rw [hRl, hYl]; omega)
  have hcpB : ∀ ty dc sc, (Builtin.copy_ #[37, 37] ty #[.slice (some ⟨w.heap.size, (i + 1) * 8, none⟩) (n + 1 - (i + 1)) dc, .slice (some ⟨g, i * 8, none⟩) (n - i) sc]).run Tryz.prog W2.drew = .ok (goInt ((n - i : Nat) : Int)) (W2.drew.setRow w.heap.size (spl (spl ROW (i * 8) y.cells) ((i + 1) * 8) (F.drop (i * 8)))) := fun ty dc sc =>
    run_copy_k W2.drew _ _ ty 83 w.heap.size ((i + 1) * 8) (n + 1 - (i + 1)) dc ⟨g, i * 8, none⟩ (n - i) sc 8 (n - i) (spl ROW (i * 8) y.cells) 83 (F.drop (i * 8)) Tryz.underlying37 Tryz.sizePlc hg2 (by simp only [Nat.min_def]; split <;> omega) hdl
      (fun j v hj => by rw [Addr.add_lit]; exact hF2 _ v (by rwa [List.getElem?_drop] at hj)) (by rw [hdl, hsp]; omega) (fun v hv => hF1 v (List.mem_of_mem_drop hv))
  obtain ⟨W3, hW3⟩ : ∃ W3, W3 = W2.drew.setRow w.heap.size (spl (spl ROW (i * 8) y.cells) ((i + 1) * 8) (F.drop (i * 8))) := ⟨_, rfl⟩
  rw [← hW3] at hcpB
  have hg3 : W3.heap[w.heap.size]? = some (.cells (spl (spl ROW (i * 8) y.cells) ((i + 1) * 8) (F.drop (i * 8))) 83 (0, 0)) := by rw [hW3]; exact setRow_heap W2.drew _ _ _ _ _ hg2
  have ho3 : Only w.heap.size W2.drew W3 := hW3 ▸ Only.row _
  have hb3 : Below w.heap.size w W3 := hb2.drew.trans (ho3.below (Nat.le_of_lt (Array.getElem?_eq_some_iff.1 hg2).1))
  have hlen : (l.take i ++ y :: l.drop i).length = n + 1 := by rw [List.length_append, List.length_cons, List.length_take, List.length_drop, ← hn]; omega
  have HO := Lib.hid (show PlcOwn W3 base (.slice (some ⟨w.heap.size, 0, none⟩) (n + 1) G) (l.take i ++ y :: l.drop i) from
    own_of_cells hbase hg3 hlen.symm (by omega) hGm (by
      rw [spl_size (by rw [hsp, hdl]; omega), hsp]) (by
      rw [hlen]
      have := ins_new (R := ROW.toList) (F := F) (Y := y.cells) (p := i * 8) (by omega) hRt (by rw [hFl, hYl, Array.length_toList, hRl]; omega)
      rw [hFl, hYl, show i * 8 + 8 = (i + 1) * 8 by omega, show n * 8 + 8 = (n + 1) * 8 by omega] at this
      refine this.trans ?_
      rw [hF, plc_take, plc_drop, List.flatMap_append, List.flatMap_cons, List.append_assoc]))
  have HB := Lib.hid hb3
  have HZ := Lib.hid hrz
  have HA := Lib.hid hcpA
  have HC := Lib.hid hcpB
  have hz2 : ¬ ((i : Int) = (n : Int)) := by omega
  have hz3 : (c : Int) < (n : Int) + 1 := by omega
  have hw1 : IntKind.i64.wrap ((i : Int) + 1) = (i : Int) + 1 := by rw [IntKind.wrap_i64]; omega
  have hw2 : IntKind.i64.wrap ((n : Int) + 1) = (n : Int) + 1 := by rw [IntKind.wrap_i64]; omega
  have hb1' : (0 : Int) ≤ (i : Int) + 1 := by omega
  have hin : i ≤ n := by omega
  have htn : ((i : Int) + 1).toNat = i + 1 := by omega
  have hb3' : (i : Int) ≤ (n : Int) := by omega
  have hGi : ¬ (G = i) := by omega
  have hGim : ¬ (G = i + 1) := by omega
  have hci : ¬ (c = i) := by omega
  have hic : i ≤ c := by omega
  have hG63 : G ≤ 9223372036854775807 := by unfold maxLen at hGm; omega
  have hw3 : IntKind.i64.wrap ((n : Int) + 1 - (i : Int)) = (n : Int) + 1 - (i : Int) := by rw [IntKind.wrap_i64]; omega
  clear hg _hsz hct hbase hn hnc hroom hv hi0 hz0 hzs hzb hcn hgw hvw hF hFl hFc hF1 hold hrz hROW hRl hRt hW1 hg1 hb1 hv1 hYl hcpA hW2 hg2 ho2 hb2 hF2 hdl hsp hcpB hW3 hg3 ho3 hb3 hlen hG hGm
  go_enter Tryz.func271, Tryz.ntmps271
  have hcA := HA.out
  go_wp2_with (at_builtin; refine Lib.wpList_append_run _ rfl _ _ _ _ rfl _ _ rfl rfl _ _ (HZ.out _) ?_)
  go_region_law (refine step_copy_runI rfl _ _ 37 37 rfl (.slice (some ⟨w.heap.size, (i + 1) * 8, none⟩) (n + 1 - (i + 1)) (G - (i + 1))) (.slice (some ⟨g, i * 8, none⟩) (n - i) (c - i)) (by simp [Act.eval, Act.put]) (by simp [Act.eval, Act.put]) (HC.out _ _ _) ?_)
  go_wp2_with fail
  go_ret
  exact ⟨⟨_, _, rfl, HO.out⟩, HB.out⟩

theorem shape_of {w : World} {b : Nat} {cs : Array Value} {t : TypeId} {fr : Nat × Nat} (h : w.heap[b]? = some (.cells cs t fr)) : w.shape? b = some (t, cs.size) := by simp [World.shape?, h]
theorem free_of {w : World} {b : Nat} {cs : Array Value} {t : TypeId} (h : w.heap[b]? = some (.cells cs t (0, 0))) (o : Nat) : w.frozen? ⟨b, o, none⟩ = false := by simp [World.frozen?, h]

set_option maxHeartbeats 8000000 in
set_option maxRecDepth 100000 in
theorem Insert_shift (base g c i n vb : Nat) (l : List Plc) (y : Plc) (w : World) (cur : Array Value) (hg : w.heap[g]? = some (.cells cur 83 (0, 0))) (hsz : cur.size = c * 8) (hct : cur.toList.take (l.length * 8) = l.flatMap Plc.cells)
    (hbg : base ≤ g) (hn : n = l.length) (hi : i < n) (h8 : n ≤ 1000) (hroom : n + 1 ≤ c) (hcm : c ≤ maxLen) (hv : w.heap[vb]? = some (.cells (plcA y) 83 (0, 0))) (hne : vb ≠ g) :
    Calls Tryz.prog 271 #[.slice (some ⟨g, 0, none⟩) n c, .int .i64 i, .slice (some ⟨vb, 0, none⟩) 1 1] w fun e w' =>
      e = .returned (.slice (some ⟨g, 0, none⟩) (n + 1) c) ∧ PlcOwn w' base (.slice (some ⟨g, 0, none⟩) (n + 1) c) (l.take i ++ y :: l.drop i) ∧ Only g w w' := by
  have hgw := (Array.getElem?_eq_some_iff.1 hg).1
  have hvw := (Array.getElem?_eq_some_iff.1 hv).1
  obtain ⟨F, hF⟩ : ∃ F, F = l.flatMap Plc.cells := ⟨_, rfl⟩
  have hFl : F.length = n * 8 := by rw [hF, hn]; exact plc_flat_len l
  rw [← hF] at hct
  have hF1 : ∀ v ∈ F, v.oneCell' = true := by rw [hF]; exact plc_one l
  have hYl : y.cells.length = 8 := rfl
  have hov : ∀ lb cb, (callFunc 288 #[.slice (some ⟨vb, 0, none⟩) 1 1, .slice (some ⟨g, (i + 1) * 8, none⟩) lb cb]).run Tryz.prog w = .ok (.value (.bool false)) w := fun lb cb => by
    rw [run_callFunc_extern Tryz.func288 (by kernel_rfl) (by kernel_rfl) (by kernel_rfl) (e := Extern.SlicesOverlaps.overlaps #[37, 37] #[4]) (by kernel_rfl),
      Lib.run_overlaps_apart w 37 4 83 Tryz.underlying37 8 (fun w => by kernel_rfl) ⟨vb, 0, none⟩ ⟨g, (i + 1) * 8, none⟩ 1 1 lb cb hne 83 83 8 cur.size (shape_of hv) (shape_of hg) (by rw [hsz]; omega) (free_of hv _) (free_of hv _)]
    rfl
  have hdl : (F.drop (i * 8)).length = (n - i) * 8 := by rw [List.length_drop, hFl]; omega
  have hFd : ∀ j v, F[j]? = some v → w.drew.cell? ⟨g, j, none⟩ = some v := plc_own_cell (w := w.drew) hg hct
  have hcpA : ∀ ty dc sc, (Builtin.copy_ #[37, 37] ty #[.slice (some ⟨g, (i + 1) * 8, none⟩) (n + 1 - (i + 1)) dc, .slice (some ⟨g, i * 8, none⟩) (n + 1 - i) sc]).run Tryz.prog w.drew = .ok (goInt ((n - i : Nat) : Int)) (w.drew.setRow g (spl cur ((i + 1) * 8) (F.drop (i * 8)))) := fun ty dc sc =>
    run_copy_k w.drew _ _ ty 83 g ((i + 1) * 8) (n + 1 - (i + 1)) dc ⟨g, i * 8, none⟩ (n + 1 - i) sc 8 (n - i) cur 83 (F.drop (i * 8)) Tryz.underlying37 Tryz.sizePlc hg (by simp only [Nat.min_def]; split <;> omega) hdl
      (fun j v hj => by rw [Addr.add_lit]; exact hFd _ v (by rwa [List.getElem?_drop] at hj)) (by rw [hdl, hsz]; omega) (fun v hv => hF1 v (List.mem_of_mem_drop hv))
  obtain ⟨W1, hW1⟩ : ∃ W1, W1 = w.drew.setRow g (spl cur ((i + 1) * 8) (F.drop (i * 8))) := ⟨_, rfl⟩
  rw [← hW1] at hcpA
  have hg1 : W1.heap[g]? = some (.cells (spl cur ((i + 1) * 8) (F.drop (i * 8))) 83 (0, 0)) := by rw [hW1]; exact setRow_heap w.drew _ _ _ _ _ hg
  have ho1 : Only g w W1 := hW1 ▸ (show Only g w (w.drew.setRow g _) from ⟨rfl, rfl, rfl, (Only.row (w := w) (g := g) (spl cur ((i + 1) * 8) (F.drop (i * 8)))).size, (Only.row (w := w) (g := g) (spl cur ((i + 1) * 8) (F.drop (i * 8)))).block⟩)
  have hv1 : W1.heap[vb]? = some (.cells (plcA y) 83 (0, 0)) := (ho1.block vb hvw hne).trans hv
  have hsp : (spl cur ((i + 1) * 8) (F.drop (i * 8))).size = c * 8 := by
    rw [← hsz]
    exact spl_size (by rw [hdl, hsz]; omega)
  have hcpB : ∀ ty dc, (Builtin.copy_ #[37, 37] ty #[.slice (some ⟨g, i * 8, none⟩) (n + 1 - i) dc, .slice (some ⟨vb, 0, none⟩) 1 1]).run Tryz.prog W1 = .ok (goInt 1) (W1.setRow g (spl (spl cur ((i + 1) * 8) (F.drop (i * 8))) (i * 8) y.cells)) := fun ty dc =>
    run_copy_k W1 _ _ ty 83 g (i * 8) (n + 1 - i) dc ⟨vb, 0, none⟩ 1 1 8 1 (spl cur ((i + 1) * 8) (F.drop (i * 8))) 83 y.cells Tryz.underlying37 Tryz.sizePlc hg1 (by simp only [Nat.min_def]; split <;> omega) rfl
      (fun j v hj => by rw [add_lit0]; exact plcA_cell hv1 j v hj) (by rw [hYl, hsp]; omega) (plc_one1 y)
  obtain ⟨W2, hW2⟩ : ∃ W2, W2 = W1.setRow g (spl (spl cur ((i + 1) * 8) (F.drop (i * 8))) (i * 8) y.cells) := ⟨_, rfl⟩
  rw [← hW2] at hcpB
  have hg2 : W2.heap[g]? = some (.cells (spl (spl cur ((i + 1) * 8) (F.drop (i * 8))) (i * 8) y.cells) 83 (0, 0)) := by rw [hW2]; exact setRow_heap W1 _ _ _ _ _ hg1
  have ho2 : Only g w W2 := ho1.trans (hW2 ▸ Only.row _)
  have hlen : (l.take i ++ y :: l.drop i).length = n + 1 := by rw [List.length_append, List.length_cons, List.length_take, List.length_drop, ← hn]; omega
  have HO := Lib.hid (show PlcOwn W2 base (.slice (some ⟨g, 0, none⟩) (n + 1) c) (l.take i ++ y :: l.drop i) from
    own_of_cells hbg hg2 hlen.symm (by omega) hcm (by rw [spl_size (by rw [hsp, hYl]; omega), hsp]) (by
      rw [hlen]
      have := ins_here (L := cur.toList) (F := F) (Y := y.cells) (p := i * 8) (by omega) (by rw [hFl, hn]; exact hct) (by rw [hFl, hYl, Array.length_toList, hsz]; omega)
      rw [hFl, hYl, show i * 8 + 8 = (i + 1) * 8 by omega, show n * 8 + 8 = (n + 1) * 8 by omega] at this
      refine this.trans ?_
      rw [hF, plc_take, plc_drop, List.flatMap_append, List.flatMap_cons, List.append_assoc]))
  have HB := Lib.hid ho2
  have HA := Lib.hid hcpA
  have HC := Lib.hid hcpB
  have hz2 : ¬ ((i : Int) = (n : Int)) := by omega
  have hz3 : ¬ ((c : Int) < (n : Int) + 1) := by omega
  have hw1 : IntKind.i64.wrap ((i : Int) + 1) = (i : Int) + 1 := by rw [IntKind.wrap_i64]; omega
  have hw2 : IntKind.i64.wrap ((n : Int) + 1) = (n : Int) + 1 := by rw [IntKind.wrap_i64]; omega
  have hb1' : (0 : Int) ≤ (i : Int) + 1 := by omega
  have hin : i ≤ n := by omega
  have htn : ((i : Int) + 1).toNat = i + 1 := by omega
  have hb2 : ¬ (c = i + 1) := by omega
  have hb3' : (i : Int) ≤ (n : Int) + 1 := by omega
  have hb4 : ¬ (c = i) := by omega
  have hG63 : c ≤ 9223372036854775807 := by unfold maxLen at hcm; omega
  clear hg hsz hct hbg hn hv hne hgw hvw hF hFl hF1 hYl hdl hFd hcpA hW1 hg1 ho1 hv1 hsp hcpB hW2 hg2 ho2 hlen hcm
  have hcB := HC.out
  go_enter Tryz.func271, Tryz.ntmps271
  go_wp2_with (simp only [hov])
  go_region_law (refine step_copy_runI rfl _ _ 37 37 rfl (.slice (some ⟨g, (i + 1) * 8, none⟩) (n + 1 - (i + 1)) (c - (i + 1))) (.slice (some ⟨g, i * 8, none⟩) (n + 1 - i) (c - i)) (by simp [Act.eval, Act.put]) (by simp [Act.eval, Act.put]) (HA.out _ _ _) ?_)
  go_wp2_with fail
  go_ret
  exact ⟨rfl, HO.out, HB.out⟩

theorem plc_row1 {w : World} {vb : Nat} {y : Plc} (hv : w.heap[vb]? = some (.cells (plcA y) 83 (0, 0))) : Row Plc.cells 8 w (some ⟨vb, 0, none⟩) [y] := row_block (enc := Plc.cells) (k := 8) (fun _ => rfl) hv rfl

set_option maxHeartbeats 8000000 in
set_option maxRecDepth 100000 in
theorem Insert_end (base : Nat) (A : Option Addr) (c n vb : Nat) (l : List Plc) (y : Plc) (w : World) (ho : PlcOwn w base (.slice A n c) l) (hn : n = l.length) (hbase : base ≤ w.heap.size) (h8 : n ≤ 1000)
    (hv : w.heap[vb]? = some (.cells (plcA y) 83 (0, 0))) :
    Calls Tryz.prog 271 #[.slice A n c, .int .i64 n, .slice (some ⟨vb, 0, none⟩) 1 1] w fun e w' =>
      (∃ A' c', e = .returned (.slice A' (n + 1) c') ∧ PlcOwn w' base (.slice A' (n + 1) c') (l ++ [y])) ∧ Below base w w' ∧ w.grownBy w' (Value.slice A n c).ownBlock := by
  have HO := Lib.hid ho
  have HR := Lib.hid (plc_row1 hv)
  have HL := Lib.hid (show l.length + ([y] : List Plc).length ≤ 1000000 by simp only [List.length_singleton]; omega)
  have HB := Lib.hid hbase
  have hw1 : IntKind.i64.wrap ((n : Int) + 1) = (n : Int) + 1 := by rw [IntKind.wrap_i64]; omega
  have HN := Lib.hid hn
  rcases ho.2 with ⟨e1, e2⟩ | ⟨g, cap, cur, e1, e2, e3, e4, e5, e6, e7⟩
  · injection e1 with e1 _ e3
    subst e1 e3
    have hn0 : n = 0 := by omega
    subst hn0
    have hl0 : l = [] := List.eq_nil_of_length_eq_zero hn.symm
    subst hl0
    clear ho hv hn hbase e2
    go_enter Tryz.func271, Tryz.ntmps271
    go_wp2_with (at_builtin; refine wpList_plcs _ rfl _ _ rfl base (.slice none 0 0) [] rfl HO.out (some ⟨vb, 0, none⟩) 1 [y] rfl HR.out HL.out HB.out ?_; intro v' w3 ho3 hb3 hgr3; obtain ⟨A3, c3, rfl⟩ := own_slice ho3; have HO3 := Lib.hid ho3; have HB3 := Lib.hid hb3; have HG3 := Lib.hid hgr3; clear ho3 hb3 hgr3)
    go_ret
    exact ⟨⟨A3, c3, rfl, HO3.out⟩, HB3.out, HG3.out⟩
  · injection e1 with e1 _ e8
    subst e1
    have hnc : n ≤ c := by subst e8; omega
    have hcm : c ≤ 9223372036854775807 := by subst e8; unfold maxLen at e5; omega
    by_cases hcn : c = n
    · subst hcn
      clear ho hv hn hbase e2 e3 e4 e5 e6 e7 e8
      go_enter Tryz.func271, Tryz.ntmps271
      go_wp2_with (at_builtin; refine wpList_plcs _ rfl _ _ rfl base (.slice (some ⟨g, 0, none⟩) c c) l rfl HO.out (some ⟨vb, 0, none⟩) 1 [y] rfl HR.out HL.out HB.out ?_; intro v' w3 ho3 hb3 hgr3; obtain ⟨A3, c3, rfl⟩ := own_slice ho3; have HO3 := Lib.hid ho3; have HB3 := Lib.hid hb3; have HG3 := Lib.hid hgr3; clear ho3 hb3 hgr3)
      go_ret
      have hl : (l ++ [y]).length = c + 1 := by rw [List.length_append, List.length_singleton, ← HN.out]
      refine ⟨⟨A3, c3, (by first | rfl | (rw [HN.out]; rfl)), by have := HO3.out; rwa [hl] at this⟩, HB3.out, HG3.out⟩
    · clear ho hv hn hbase e2 e3 e4 e5 e6 e7 e8
      go_enter Tryz.func271, Tryz.ntmps271
      go_wp2_with (at_builtin; refine wpList_plcs _ rfl _ _ rfl base (.slice (some ⟨g, 0, none⟩) n c) l rfl HO.out (some ⟨vb, 0, none⟩) 1 [y] rfl HR.out HL.out HB.out ?_; intro v' w3 ho3 hb3 hgr3; obtain ⟨A3, c3, rfl⟩ := own_slice ho3; have HO3 := Lib.hid ho3; have HB3 := Lib.hid hb3; have HG3 := Lib.hid hgr3; clear ho3 hb3 hgr3)
      go_ret
      have hl : (l ++ [y]).length = n + 1 := by rw [List.length_append, List.length_singleton, ← HN.out]
      refine ⟨⟨A3, c3, (by first | rfl | (rw [HN.out]; rfl)), by have := HO3.out; rwa [hl] at this⟩, HB3.out, HG3.out⟩

/-- slices.Insert of one placed module into a row of the call's own -/
theorem Insert_any (base : Nat) (A : Option Addr) (c n i vb : Nat) (l : List Plc) (y : Plc) (w : World) (ho : PlcOwn w base (.slice A n c) l) (hn : n = l.length) (hi : i ≤ n) (hbase : base ≤ w.heap.size) (h8 : n ≤ 1000)
    (hv : w.heap[vb]? = some (.cells (plcA y) 83 (0, 0))) (hne : ∀ a, A = some a → a.block ≠ vb) :
    Calls Tryz.prog 271 #[.slice A n c, .int .i64 i, .slice (some ⟨vb, 0, none⟩) 1 1] w fun e w' =>
      (∃ A' c', e = .returned (.slice A' (n + 1) c') ∧ PlcOwn w' base (.slice A' (n + 1) c') (l.take i ++ y :: l.drop i)) ∧ Kp [83] w w' ∧ Below base w w' := by
  rcases Nat.lt_or_ge i n with hlt | hge
  · obtain ⟨g, hA, _⟩ := PlcOwn.at_ (l := l) (by rw [hn] at ho; exact ho) (j := i) (by omega)
    subst hA
    obtain ⟨cur, hbg, hg, h1, h2, h3, h4⟩ := own_cells ho hn
    rcases Nat.lt_or_ge c (n + 1) with hc | hc
    · refine (Insert_grow base g c i n vb l y w cur hg h3 h4 hbase hn (by omega) hlt h8 hc hv).mono ?_
      rintro e w' ⟨h, hb⟩
      exact ⟨h, Kp.of_below hb, hb.mono hbase⟩
    · refine (Insert_shift base g c i n vb l y w cur hg h3 h4 hbg hn hlt h8 hc h2 hv (fun e => hne _ rfl e.symm)).mono ?_
      rintro e w' ⟨rfl, ho', hon⟩
      exact ⟨⟨_, _, rfl, ho'⟩, hon.kp hg (by simp), (hon.below (Nat.le_of_lt (Array.getElem?_eq_some_iff.1 hg).1)).mono hbg⟩
  · obtain rfl : i = n := by omega
    refine (Insert_end base A c i vb l y w ho hn hbase h8 hv).mono ?_
    rintro e w' ⟨⟨A', c', rfl, ho'⟩, hb, hgr⟩
    refine ⟨⟨A', c', rfl, ?_⟩, Kp.grown hgr (fun g hg => ?_), hb⟩
    · rw [hn, List.take_length, List.drop_length]
      rw [hn] at ho'
      exact ho'
    · obtain ⟨cs, fz, h⟩ := own_kind ho g hg
      exact ⟨cs, _, fz, h, by simp⟩

end Go.Proofs.YtjiedaialianmaaGreat
end

section

namespace Go.Proofs.YtjiedaialianmaaGreat
open Go.RowKit Go.Lib

def zero8 : List Value := [.string ⟨#[]⟩, .int .i64 0, .int .i64 0, .string ⟨#[]⟩, .slice none 0 0, .slice none 0 0, .slice none 0 0, .int .i64 0]
theorem zero8_eq : (Builtin.zeroCells zeroPlc.cells 1).toList = zero8 := by simp [Builtin.zeroCells, Value.cells, zero8]; rfl
theorem zero8_one : ∀ v ∈ zero8, v.oneCell' = true := by
  intro v hv
  simp only [zero8, List.mem_cons, List.not_mem_nil, or_false] at hv
  rcases hv with rfl | rfl | rfl | rfl | rfl | rfl | rfl | rfl <;> rfl
set_option maxHeartbeats 8000000 in
set_option maxRecDepth 100000 in
theorem Delete_row (base g c n i : Nat) (l : List Plc) (w : World) (cur : Array Value) (hg : w.heap[g]? = some (.cells cur 83 (0, 0))) (hsz : cur.size = c * 8) (hct : cur.toList.take (l.length * 8) = l.flatMap Plc.cells)
    (hbg : base ≤ g) (hn : n + 1 = l.length) (hi : i ≤ n) (h8 : n ≤ 1000) (hnc : n + 1 ≤ c) (hcm : c ≤ maxLen) :
    Calls Tryz.prog 267 #[.slice (some ⟨g, 0, none⟩) (n + 1) c, .int .i64 i, .int .i64 ((i : Int) + 1)] w fun e w' =>
      e = .returned (.slice (some ⟨g, 0, none⟩) n c) ∧ PlcOwn w' base (.slice (some ⟨g, 0, none⟩) n c) (l.eraseIdx i) ∧ Only g w w' := by
  obtain ⟨i0, hi0, hz0, hzs, hzb⟩ := info_parts Tryz.infoPlc
  obtain ⟨F, hF⟩ : ∃ F, F = l.flatMap Plc.cells := ⟨_, rfl⟩
  have hFl : F.length = (n + 1) * 8 := by rw [hF, hn]; exact plc_flat_len l
  rw [← hF] at hct
  have hF1 : ∀ v ∈ F, v.oneCell' = true := by rw [hF]; exact plc_one l
  have hdl : (F.drop ((i + 1) * 8)).length = (n - i) * 8 := by rw [List.length_drop, hFl]; omega
  have hFd : ∀ j v, F[j]? = some v → w.drew.cell? ⟨g, j, none⟩ = some v := plc_own_cell (w := w.drew) hg hct
  obtain ⟨A, hA, hsrc⟩ : ∃ A : Addr, (if c = i + 1 then (⟨g, 0, none⟩ : Addr) else ⟨g, (i + 1) * 8, none⟩) = A ∧ (∀ t u, (F.drop ((i + 1) * 8))[t]? = some u → w.drew.cell? (A.add t) = some u) := by
    by_cases h : c = i + 1
    · refine ⟨⟨g, 0, none⟩, by simp [h], fun t u hu => ?_⟩
      have h0 : (F.drop ((i + 1) * 8)).length = 0 := by rw [hdl]; omega
      rw [List.length_eq_zero_iff.1 h0] at hu
      simp at hu
    · refine ⟨⟨g, (i + 1) * 8, none⟩, by simp [h], fun t u hu => ?_⟩
      rw [Addr.add_lit]
      exact hFd _ u (by rwa [List.getElem?_drop] at hu)
  have hap : ∀ ty cc, (Builtin.append_ #[37, 37] ty #[.slice (some ⟨g, 0, none⟩) i c, .slice (some A) (n - i) cc]).run Tryz.prog w.drew = .ok (.slice (some ⟨g, 0, none⟩) n c) (w.drew.setRow g (spl cur (i * 8) (F.drop ((i + 1) * 8)))) := fun ty cc => by
    have h := run_append_room (P := Tryz.prog) (w := w.drew) 37 ty 83 i0 Tryz.underlying37 hi0 g i c cur hg A (n - i) cc (F.drop ((i + 1) * 8)) (by rw [hdl, hzs]) hsrc (fun v hv => hF1 v (List.mem_of_mem_drop hv)) (by omega) (by rw [hdl, hzs, hsz]; omega)
    rw [hzs, show i + (n - i) = n by omega] at h
    exact h
  obtain ⟨W1, hW1⟩ : ∃ W1, W1 = w.drew.setRow g (spl cur (i * 8) (F.drop ((i + 1) * 8))) := ⟨_, rfl⟩
  rw [← hW1] at hap
  have hg1 : W1.heap[g]? = some (.cells (spl cur (i * 8) (F.drop ((i + 1) * 8))) 83 (0, 0)) := by rw [hW1]; exact setRow_heap w.drew _ _ _ _ _ hg
  have ho1 : Only g w W1 := hW1 ▸ (show Only g w (w.drew.setRow g _) from ⟨rfl, rfl, rfl, (Only.row (w := w) (g := g) (spl cur (i * 8) (F.drop ((i + 1) * 8)))).size, (Only.row (w := w) (g := g) (spl cur (i * 8) (F.drop ((i + 1) * 8)))).block⟩)
  have hsp : (spl cur (i * 8) (F.drop ((i + 1) * 8))).size = c * 8 := by
    rw [← hsz]
    exact spl_size (by rw [hdl, hsz]; omega)
  obtain ⟨Z, hZ⟩ : ∃ Z, Z = zero8 := ⟨_, rfl⟩
  have hZl : Z.length = 8 := by rw [hZ]; rfl
  have hcl : ∀ ty cc, (Builtin.clear_ #[37] ty #[.slice (some ⟨g, n * 8, none⟩) 1 cc]).run Tryz.prog W1 = .ok (.tuple #[]) (W1.setRow g (spl (spl cur (i * 8) (F.drop ((i + 1) * 8))) (n * 8) Z)) := fun ty cc =>
    run_clear_k W1 37 83 ty zeroPlc Tryz.underlying37 (fun w => by kernel_rfl) g (n * 8) 1 cc (by omega) (spl cur (i * 8) (F.drop ((i + 1) * 8))) 83 Z (zero8_eq.trans hZ.symm) hg1 (by rw [hZl, hsp]; omega) (by rw [hZ]; exact zero8_one)
  obtain ⟨W2, hW2⟩ : ∃ W2, W2 = W1.setRow g (spl (spl cur (i * 8) (F.drop ((i + 1) * 8))) (n * 8) Z) := ⟨_, rfl⟩
  rw [← hW2] at hcl
  have hg2 : W2.heap[g]? = some (.cells (spl (spl cur (i * 8) (F.drop ((i + 1) * 8))) (n * 8) Z) 83 (0, 0)) := by rw [hW2]; exact setRow_heap W1 _ _ _ _ _ hg1
  have ho2 : Only g w W2 := ho1.trans (hW2 ▸ Only.row _)
  have hlen : (l.eraseIdx i).length = n := by rw [List.length_eraseIdx]; split <;> omega
  have HO := Lib.hid (show PlcOwn W2 base (.slice (some ⟨g, 0, none⟩) n c) (l.eraseIdx i) from
    own_of_cells hbg hg2 hlen.symm (by omega) hcm (by rw [spl_size (by rw [hsp, hZl]; omega), hsp]) (by
      rw [hlen]
      have := del_here (L := cur.toList) (F := F) (Z := Z) (p := i * 8) (q := 8) (by omega) (by rw [hFl, hn]; exact hct) (by rw [hFl, Array.length_toList, hsz]; omega) hZl
      rw [hFl, show i * 8 + 8 = (i + 1) * 8 by omega, show (n + 1) * 8 - 8 = n * 8 by omega] at this
      refine this.trans ?_
      rw [hF, plc_take, plc_drop, ← List.flatMap_append, List.eraseIdx_eq_take_drop_succ]))
  have HB := Lib.hid ho2
  have HA := Lib.hid hap
  have HC := Lib.hid hcl
  have hw1 : IntKind.i64.wrap ((i : Int) + 1) = (i : Int) + 1 := by rw [IntKind.wrap_i64]; omega
  have hb1' : (0 : Int) ≤ (i : Int) + 1 := by omega
  have hin : i ≤ n := by omega
  have htn : ((i : Int) + 1).toNat = i + 1 := by omega
  have hb2 : (i : Int) + 1 ≤ (n : Int) + 1 := by omega
  have hb4 : ¬ (c = i) := by omega
  have hb5 : ¬ (c = n) := by omega
  have hb6 : ¬ (n + 1 = i) := by omega
  have hb7 : ¬ ((i : Int) = (i : Int) + 1) := by omega
  have hb8 : i ≤ n + 1 := by omega
  have hb9 : i ≤ c := by omega
  have hb10 : i + 1 ≤ c := by omega
  have hG63 : c ≤ 9223372036854775807 := by unfold maxLen at hcm; omega
  clear hg hsz hct hbg hn hF hFl hF1 hdl hFd hsrc hap hW1 hg1 ho1 hsp hZ hZl hcl hW2 hg2 ho2 hlen hcm hi0 hz0 hzs hzb
  have hcC := HC.out
  by_cases h : c = i + 1
  · rw [if_pos h] at hA
    subst hA
    obtain rfl : n = i := by omega
    subst h
    have HA' := Lib.hid (show ∀ ty cc, (Builtin.append_ #[37, 37] ty #[.slice (some ⟨g, 0, none⟩) n (n + 1), .slice (some ⟨g, 0, none⟩) 0 cc]).run Tryz.prog w.drew = .ok (.slice (some ⟨g, 0, none⟩) n (n + 1)) W1 by have := HA.out; rwa [Nat.sub_self] at this)
    have hb11 : (n : Int) ≤ (n : Int) + 1 := by omega
    go_enter Tryz.func267, Tryz.ntmps267
    go_wp2_with fail
    go_region_law (refine step_append_runI rfl _ _ 37 37 rfl (.slice (some ⟨g, 0, none⟩) n (n + 1)) (.slice (some ⟨g, 0, none⟩) 0 0) (by simp [Act.eval, Act.put]) (by simp [Act.eval, Act.put]) (HA'.out _ _) ?_)
    go_wp2_with fail
    go_ret
    exact ⟨rfl, HO.out, HB.out⟩
  · rw [if_neg h] at hA
    subst hA
    go_enter Tryz.func267, Tryz.ntmps267
    go_wp2_with fail
    go_region_law (refine step_append_runI rfl _ _ 37 37 rfl (.slice (some ⟨g, 0, none⟩) i c) (.slice (some ⟨g, (i + 1) * 8, none⟩) (n - i) (c - (i + 1))) (by simp [Act.eval, Act.put]) (by simp [Act.eval, Act.put]) (HA.out _ _) ?_)
    go_wp2_with fail
    go_ret
    exact ⟨rfl, HO.out, HB.out⟩

end Go.Proofs.YtjiedaialianmaaGreat
end

section

namespace Go.Proofs.YtjiedaialianmaaGreat
open Go.RowKit Go.Lib

set_option maxHeartbeats 1000000 in
set_option maxRecDepth 100000 in
theorem ContPlc_any (A : Option Addr) (c : Nat) (l : List Plc) (g : Nat) (lb : Array Value) (q : Plc → Bool) (w : World) (eg : ∀ args w, (callFunc g args).run Tryz.prog w = .ok (.enter g args) w) (h : Row Plc.cells 8 w A l) (hl : l.length ≤ big)
    (hq : ∀ x ∈ l, ∀ W, Below w.heap.size w W → Calls Tryz.prog g (#[x.v] ++ lb) W fun e w' => e = .returned (.bool (q x)) ∧ Below W.heap.size W w') :
    Calls Tryz.prog 265 #[.slice A l.length c, .func (.func g) #[] lb] w fun e w' => e = .returned (.bool (l.any q)) ∧ Below w.heap.size w w' := by
  have c1 := Lib.hid (IdxPlc_any A c l g lb q w eg h hl hq)
  have e1 := Lib.hid (idxOf_any q l)
  generalize l.any q = b at *
  generalize idxOf q l = i at *
  clear h hq
  go_enter Tryz.func265, Tryz.ntmps265
  go_wp2_with (go_at_call 191; refine (c1.out).mono ?_; rintro e w3 ⟨rfl, hb3⟩)
  go_ret
  exact ⟨ret_bool e1.out, hb3⟩
set_option maxHeartbeats 1000000 in
set_option maxRecDepth 100000 in
theorem ContRun_any (A : Option Addr) (c : Nat) (l : List Run) (g : Nat) (lb : Array Value) (q : Run → Bool) (w : World) (eg : ∀ args w, (callFunc g args).run Tryz.prog w = .ok (.enter g args) w) (h : Row Run.cells 2 w A l) (hl : l.length ≤ big)
    (hq : ∀ x ∈ l, ∀ W, Below w.heap.size w W → Calls Tryz.prog g (#[x.v] ++ lb) W fun e w' => e = .returned (.bool (q x)) ∧ Below W.heap.size W w') :
    Calls Tryz.prog 268 #[.slice A l.length c, .func (.func g) #[] lb] w fun e w' => e = .returned (.bool (l.any q)) ∧ Below w.heap.size w w' := by
  have c1 := Lib.hid (IdxRun_any A c l g lb q w eg h hl hq)
  have e1 := Lib.hid (idxOf_any q l)
  generalize l.any q = b at *
  generalize idxOf q l = i at *
  clear h hq
  go_enter Tryz.func268, Tryz.ntmps268
  go_wp2_with (go_at_call 238; refine (c1.out).mono ?_; rintro e w3 ⟨rfl, hb3⟩)
  go_ret
  exact ⟨ret_bool e1.out, hb3⟩

/-- is a module of that name asked by another one? -/
def usedT (l : List Plc) (nm : ByteArray) : Bool := l.any fun x => dirT l (tx x.m.name) (tx nm)
theorem used1_any (A : Option Addr) (c : Nat) (l : List Plc) (nm : ByteArray) (x : Plc) (B C : Nat) (w : World) (h : PlsOk w A l) (hx : x ∈ l) (hB : w.cell? ⟨B, 0, none⟩ = some (.slice A l.length c)) (hC : w.cell? ⟨C, 0, none⟩ = some (.string nm)) (hb : B < w.heap.size) (hc : C < w.heap.size) :
    Calls Tryz.prog 266 (#[x.v] ++ #[.pointer (some ⟨B, 0, none⟩), .pointer (some ⟨C, 0, none⟩)]) w fun e w' => e = .returned (.bool (dirT l (tx x.m.name) (tx nm))) ∧ Below w.heap.size w w' := by
  obtain ⟨w0, hw0⟩ : ∃ w0, w0 = w.alloc (.cells #[.string x.m.name, .int .i64 x.m.major, .int .i64 x.m.minor, .string x.m.text, .slice x.m.eA x.m.ex.length x.m.eC, .slice x.m.iA x.m.im.length x.m.iC, .slice x.m.pA x.m.pa.length x.m.pC, .int .i64 x.first] 83) := ⟨_, rfl⟩
  obtain ⟨f0, f1, f2, f3, f4, f5, f6, f7, hz, hb0⟩ := box8 hw0
  have k1 := (hb0.cell (p := ⟨B, 0, none⟩) hb).trans hB
  have k2 := (hb0.cell (p := ⟨C, 0, none⟩) hc).trans hC
  have c1 := Lib.hid (direct_any A c l x.m.name nm w0 (h.below hb0) (List.mem_map.2 ⟨x, hx, rfl⟩))
  have H0 := Lib.hid hb0
  have hw0' := hw0.symm
  clear hw0 hb0 hz h hx hB hC hb hc
  go_enter Tryz.func266, Tryz.ntmps266
  go_wp2_with (go_at_call 161; refine (c1.out).mono ?_; rintro e w3 ⟨rfl, hb3⟩)
  go_ret
  exact ⟨rfl, H0.out.trans (hb3.mono H0.out.size)⟩
set_option maxHeartbeats 1000000 in
set_option maxRecDepth 100000 in
theorem Used_any (A : Option Addr) (c : Nat) (l : List Plc) (nm : ByteArray) (w : World) (h : PlsOk w A l) :
    Calls Tryz.prog 247 #[.slice A l.length c, .string nm] w fun e w' => e = .returned (.bool (usedT l nm)) ∧ Below w.heap.size w w' := by
  obtain ⟨w0, hw0⟩ : ∃ w0, w0 = w.alloc (.cells #[.slice A l.length c] 37) := ⟨_, rfl⟩
  obtain ⟨x0, hx0⟩ : ∃ x0, x0 = w0.alloc (.cells #[.string nm] 9) := ⟨_, rfl⟩
  have hz0 : w0.heap.size = w.heap.size + 1 := by subst hw0; simp
  have hz1 : x0.heap.size = w.heap.size + 2 := by subst hx0; simp; omega
  have hB0 : Boxed w0 w.heap.size 37 (.slice A l.length c) := hw0 ▸ Boxed.new _ _ _
  have hC1 : Boxed x0 (w.heap.size + 1) 9 (.string nm) := by rw [← hz0]; exact hx0 ▸ Boxed.new _ _ _
  have hb0 : Below w.heap.size w w0 := hw0 ▸ (Below.refl _ _).alloc (Nat.le_refl _) _
  have hbx : Below w0.heap.size w0 x0 := hx0 ▸ (Below.refl _ _).alloc (Nat.le_refl _) _
  have hB1 : Boxed x0 w.heap.size 37 (.slice A l.length c) := box_below hB0 hbx (by omega)
  have hb1 := hb0.trans (hbx.mono hb0.size)
  have HB := Lib.hid hb1
  have k1 := hB1.cell
  have c1 := Lib.hid (ContPlc_any A c l 266 #[.pointer (some ⟨w.heap.size, 0, none⟩), .pointer (some ⟨w.heap.size + 1, 0, none⟩)] (fun x => dirT l (tx x.m.name) (tx nm)) x0 (enters_of Tryz.func266 (by kernel_rfl) rfl) (h.row.below hb1) h.len
    (fun x hx W hb => used1_any A c l nm x w.heap.size (w.heap.size + 1) W ((h.below hb1).below hb) hx (box_below hB1 hb (by omega)).cell (box_below hC1 hb (by omega)).cell (by have := hb.size; omega) (by have := hb.size; omega)))
  have hw0' := hw0.symm
  have hx0' := hx0.symm
  have e1 := Lib.hid (show l.any (fun x => dirT l (tx x.m.name) (tx nm)) = usedT l nm from rfl)
  rw [e1.out] at c1
  generalize usedT l nm = b at *
  clear hw0 hx0 hB0 hC1 hb0 hbx hB1 hb1 h
  go_enter Tryz.func247, Tryz.ntmps247
  go_wp2_with (go_at_call 265; refine (c1.out).mono ?_; rintro e w3 ⟨rfl, hb3⟩)
  go_ret
  exact ⟨rfl, HB.out.trans (hb3.mono HB.out.size)⟩

end Go.Proofs.YtjiedaialianmaaGreat
end

section

namespace Go.Proofs.YtjiedaialianmaaGreat
open Go.RowKit Go.Lib

/-- a planner: a block of its own with a registry of the call's own -/
structure PlannerOk (W : World) (base bp : Nat) (k : Krn) (A : Option Addr) (l : List Plc) (c : Nat) : Prop where
  heap : W.heap[bp]? = some (.cells #[.int .i64 k.major, .int .i64 k.minor, .slice k.eA k.ex.length k.eC, .slice A l.length c] 281 (0, 0))
  own : RgOwn W base k A l c
  ok : PlsOk W A l
  low : base ≤ bp
theorem PlannerOk.below {W W' : World} {base bp : Nat} {k : Krn} {A : Option Addr} {l : List Plc} {c : Nat} (h : PlannerOk W base bp k A l c) (hb : Below W.heap.size W W') : PlannerOk W' base bp k A l c :=
  ⟨(hb.block bp (Array.getElem?_eq_some_iff.1 h.heap).1).trans h.heap, h.own.below hb, h.ok.below hb, h.low⟩
theorem PlannerOk.size {W : World} {base bp : Nat} {k : Krn} {A : Option Addr} {l : List Plc} {c : Nat} (h : PlannerOk W base bp k A l c) : base ≤ W.heap.size := Nat.le_trans h.low (Nat.le_of_lt (Array.getElem?_eq_some_iff.1 h.heap).1)

/-- do so many sectors fit into a run, from one on? -/
def fitsQ (first many : Int) (r : Run) : Bool := decide (r.first ≤ first) && decide (first + many ≤ r.first + r.many)
theorem free1_any (r : Run) (first many : Int) (B C : Nat) (w : World) (hB : w.cell? ⟨B, 0, none⟩ = some (.int .i64 first)) (hC : w.cell? ⟨C, 0, none⟩ = some (.int .i64 many)) (hb : B < w.heap.size) (hc : C < w.heap.size)
    (h1 : -1000 ≤ first ∧ first ≤ 1000) (h2 : -1000 ≤ many ∧ many ≤ 1000) (h3 : -1000 ≤ r.first ∧ r.first ≤ 1000) (h4 : -1000 ≤ r.many ∧ r.many ≤ 1000) :
    Calls Tryz.prog 269 (#[r.v] ++ #[.pointer (some ⟨B, 0, none⟩), .pointer (some ⟨C, 0, none⟩)]) w fun e w' => e = .returned (.bool (fitsQ first many r)) ∧ Below w.heap.size w w' := by
  have hw1 := IntWalk.i64_in (first + many) (by omega)
  have hw2 := IntWalk.i64_in (r.first + r.many) (by omega)
  have n1 : B ≠ w.heap.size := by omega
  have n2 : C ≠ w.heap.size := by omega
  unfold fitsQ
  by_cases t : r.first ≤ first
  · by_cases s : first + many ≤ r.first + r.many
    · have t' : decide (r.first ≤ first) = true := decide_eq_true t
      have s' : decide (first + many ≤ r.first + r.many) = true := decide_eq_true s
      go_enter Tryz.func269, Tryz.ntmps269
      go_wp2_with fail
      go_ret
      exact ⟨by simp [t, s], (Below.refl _ _).alloc (Nat.le_refl _) _⟩
    · have t' : decide (r.first ≤ first) = true := decide_eq_true t
      have s' : decide (first + many ≤ r.first + r.many) = false := decide_eq_false s
      go_enter Tryz.func269, Tryz.ntmps269
      go_wp2_with fail
      go_ret
      exact ⟨by simp, (Below.refl _ _).alloc (Nat.le_refl _) _⟩
  · have t' : decide (r.first ≤ first) = false := decide_eq_false t
    go_enter Tryz.func269, Tryz.ntmps269
    go_wp2_with fail
    go_ret
    exact ⟨by simp, (Below.refl _ _).alloc (Nat.le_refl _) _⟩

theorem runs_range : ∀ {l : List Plc} {a : Int}, Row16 a l → ∀ r ∈ runsFrom a l, a ≤ r.first ∧ 0 < r.many ∧ r.first + r.many ≤ 16
  | [], a, h, r, hr => by
    have : a ≤ 16 := h
    unfold runsFrom gapRun at hr
    split at hr
    · rw [List.mem_singleton.1 hr]; simp only; omega
    · cases hr
  | x :: l, a, ⟨h1, h2, h3, h4⟩, r, hr => by
    have hle := h4.le
    have e : endOf x = x.first + manyOf x.m := rfl
    unfold runsFrom at hr
    rcases List.mem_append.1 hr with hr | hr
    · unfold gapRun at hr
      split at hr
      · rw [List.mem_singleton.1 hr]; simp only; omega
      · cases hr
    · have := runs_range h4 r hr
      omega

set_option maxHeartbeats 1000000 in
set_option maxRecDepth 100000 in
theorem Pfree_any (base bp : Nat) (k : Krn) (A : Option Addr) (c : Nat) (l : List Plc) (first many : Int) (w : World) (h : PlannerOk w base bp k A l c) (hr : regErr l = 0) (h1 : -1000 ≤ first ∧ first ≤ 1000) (h2 : -1000 ≤ many ∧ many ≤ 1000) :
    Calls Tryz.prog 249 #[.pointer (some ⟨bp, 0, none⟩), .int .i64 first, .int .i64 many] w fun e w' => e = .returned (.bool ((runsOf l).any (fitsQ first many))) ∧ Below w.heap.size w w' := by
  obtain ⟨w0, hw0⟩ : ∃ w0, w0 = w.alloc (.cells #[.int .i64 first] 3) := ⟨_, rfl⟩
  obtain ⟨x0, hx0⟩ : ∃ x0, x0 = w0.alloc (.cells #[.int .i64 many] 3) := ⟨_, rfl⟩
  have hz0 : w0.heap.size = w.heap.size + 1 := by subst hw0; simp
  have hz1 : x0.heap.size = w.heap.size + 2 := by subst hx0; simp; omega
  have hB0 : Boxed w0 w.heap.size 3 (.int .i64 first) := hw0 ▸ Boxed.new _ _ _
  have hC1 : Boxed x0 (w.heap.size + 1) 3 (.int .i64 many) := by rw [← hz0]; exact hx0 ▸ Boxed.new _ _ _
  have hb0 : Below w.heap.size w w0 := hw0 ▸ (Below.refl _ _).alloc (Nat.le_refl _) _
  have hbx : Below w0.heap.size w0 x0 := hx0 ▸ (Below.refl _ _).alloc (Nat.le_refl _) _
  have hB1 : Boxed x0 w.heap.size 3 (.int .i64 first) := box_below hB0 hbx (by omega)
  have hb1 := hb0.trans (hbx.mono hb0.size)
  have HB := Lib.hid hb1
  have p3 := heap_cell ((hb1.block bp (Array.getElem?_eq_some_iff.1 h.heap).1).trans h.heap) 3
  simp only [List.getElem?_toArray, List.getElem?_cons_zero, List.getElem?_cons_succ] at p3
  have c1 := Lib.hid (Runs_any A c l x0 (h.ok.below hb1) hr)
  have hrow := (reg_row hr).2.2
  have hrange : ∀ r ∈ runsOf l, 0 ≤ r.first ∧ 0 < r.many ∧ r.first + r.many ≤ 16 := runs_range hrow
  have hlen : (runsOf l).length ≤ big := by have := runsFrom_length l 0; have := (reg_row hr).1; unfold runsOf big; omega
  have HQ := Lib.hid (fun A' c' W (hb : Below x0.heap.size x0 W) (hrow : RunRow W A' (runsOf l)) => ContRun_any A' c' (runsOf l) 269 #[.pointer (some ⟨w.heap.size, 0, none⟩), .pointer (some ⟨w.heap.size + 1, 0, none⟩)] (fitsQ first many) W (enters_of Tryz.func269 (by kernel_rfl) rfl) hrow hlen
    (fun x hx W' hb' => by
      have hs := hb.size
      have hs' := hb'.size
      have := hrange x hx
      exact free1_any x first many w.heap.size (w.heap.size + 1) W' (box_below (box_below hB1 hb (by omega)) hb' (by omega)).cell (box_below (box_below hC1 hb (by omega)) hb' (by omega)).cell (by omega) (by omega) h1 h2 (by omega) (by omega)))
  have hw0' := hw0.symm
  have hx0' := hx0.symm
  generalize (runsOf l).any (fitsQ first many) = b at *
  generalize runsOf l = R at *
  clear hw0 hx0 hB0 hC1 hb0 hbx hB1 hb1 h hr hrow hrange hlen
  go_enter Tryz.func249, Tryz.ntmps249
  go_wp2_with (first | (go_at_call 138; refine (c1.out).mono ?_; rintro e w2 ⟨⟨A', c', rfl, hrow⟩, hb2⟩; have HR := Lib.hid hrow; clear hrow) | (go_at_call 268; refine (HQ.out _ _ _ hb2 HR.out).mono ?_; rintro e w3 ⟨rfl, hb3⟩))
  go_ret
  exact ⟨rfl, HB.out.trans ((hb2.mono HB.out.size).trans (hb3.mono (Nat.le_trans HB.out.size hb2.size)))⟩

end Go.Proofs.YtjiedaialianmaaGreat
end
