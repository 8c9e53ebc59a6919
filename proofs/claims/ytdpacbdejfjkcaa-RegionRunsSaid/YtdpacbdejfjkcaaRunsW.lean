import Derived.Test.YtdpacbdejfjkcaaRegW
import Derived.RangeFuncBox
/- Runs that are free (chapter F): region.Runs, its closure; region.Free. -/
namespace Go.Proofs.Ytdpacbdejfjkcaa
open Go.RowKit

def Run.cells (r : Run) : List Value := [.int .i64 r.first, .int .i64 r.many]
abbrev Run.v (r : Run) : Value := .agg #[.int .i64 r.first, .int .i64 r.many]
abbrev zeroRun : Value := .agg #[.int .i64 0, .int .i64 0]
theorem Try.infoRun : (Try.prog.info? 44).map (fun i => (i.zero, i.size, i.bytes)) = some (some zeroRun, 2, 16) := by kernel_rfl
/-- a slice of runs that lies in blocks of the call's own, from block base on -/
def RunOwn (w : World) (base : Nat) (v : Value) (l : List Run) : Prop := w.ownsRow base 44 2 v l.length (l.flatMap Run.cells)
theorem run_one (l : List Run) : ∀ u ∈ l.flatMap Run.cells, u.oneCell' = true := by
  intro u hu
  obtain ⟨x, _, hx⟩ := List.mem_flatMap.1 hu
  simp only [Run.cells, List.mem_cons, List.not_mem_nil, or_false] at hx
  rcases hx with rfl | rfl <;> rfl
abbrev RunRow (w : World) (A : Option Addr) (l : List Run) : Prop := Row Run.cells 2 w A l
theorem own_form {w : World} {base size n : Nat} {e : TypeId} {v : Value} {xs : List Value} (h : w.ownsRow base e size v n xs) : ∃ (A : Option Addr) (c : Nat), v = .slice A n c := by
  rcases h.2 with ⟨rfl, rfl⟩ | ⟨g', cap, cur, rfl, _⟩
  · exact ⟨_, _, rfl⟩
  · exact ⟨_, _, rfl⟩
theorem own_low {w : World} {base size n : Nat} {e : TypeId} {v : Value} {xs : List Value} (h : w.ownsRow base e size v n xs) : ∀ g, v.ownBlock = some g → base ≤ g := fun g hg => (h.lt g hg).1
theorem own_bel {w w' : World} {base size n B : Nat} {e : TypeId} {v : Value} {xs : List Value} (h : w.ownsRow base e size v n xs) (hb : Below B w w') (hB : w.heap.size ≤ B) : w'.ownsRow base e size v n xs := by
  refine ⟨h.1, ?_⟩
  rcases h.2 with h0 | ⟨g, cap, cur, e1, e2, e3, e4⟩
  · exact .inl h0
  · refine .inr ⟨g, cap, cur, e1, e2, ?_, e4⟩
    have : g < w.heap.size := by
      rcases Nat.lt_or_ge g w.heap.size with hlt | hge
      · exact hlt
      · rw [Array.getElem?_eq_none hge] at e3; cases e3
    rw [hb.block g (by omega)]; exact e3
theorem RunOwn.row {w : World} {base : Nat} {v : Value} {l : List Run} (h : RunOwn w base v l) : ∃ (A : Option Addr) (c : Nat), v = .slice A l.length c ∧ RunRow w A l := by
  obtain ⟨A, c, rfl⟩ := own_form h
  exact ⟨A, c, rfl, Reads.of_own h⟩
theorem RunOwn.nil (w : World) (base : Nat) : RunOwn w base (.slice none 0 0) [] := World.ownsRow_nil _ _ _ _
theorem append_Run (W : World) {ops : Array Oper} {rest : List Oper} {o : Oper} {a : Act} {Q : Exit → Act → World → Prop} (hgd : o.guard = none) (s x : Operand)
    (ho : o.op = .call { callee := .builtin .append, args := #[s, x], argTypes := #[31, 31] }) (base : Nat) (v : Value) (l : List Run) (r : Run) (hs : a.eval s = v)
    (hx : a.eval x = .slice (some ⟨W.heap.size, 0, none⟩) 1 1) (hown : RunOwn W base v l) (hl : l.length ≤ 1000000) (hbase : base ≤ W.heap.size)
    (h : ∀ v' w', RunOwn w' base v' (l ++ [r]) → (W.alloc (.cells #[.int .i64 r.first, .int .i64 r.many] 44)).grownBy w' v.ownBlock → wpList Try.prog ops Q rest (a.put o.dst v') w') : wpList Try.prog ops Q (o :: rest) a (W.alloc (.cells #[.int .i64 r.first, .int .i64 r.many] 44)) := by
  obtain ⟨i0, hi, hz0, hz1, hz2⟩ := info_parts Try.infoRun
  refine wpList_append_own_at (W.alloc (.cells #[.int .i64 r.first, .int .i64 r.many] 44)) hgd s x 31 ho base 44 i0 zeroRun 2 16 Try.underlying31 hi hz0 hz1 hz2 rfl (by decide) v l.length (l.flatMap Run.cells) hs (hown.alloc _) ⟨W.heap.size, 0, none⟩ 1 1 r.cells hx rfl
    ?_ (by intro u hu; simp only [Run.cells, List.mem_cons, List.not_mem_nil, or_false] at hu; rcases hu with rfl | rfl <;> rfl) (by simp only [maxLen]; omega) (by omega) (by simp; omega) ?_
  · intro j u hu
    match j, hu with
    | 0, hu => simp only [Run.cells, List.getElem?_cons_zero, Option.some.injEq] at hu; subst hu; rw [add_zero_, World.cell?_alloc_new]; rfl
    | 1, hu => simp only [Run.cells, List.getElem?_cons_succ, List.getElem?_cons_zero, Option.some.injEq] at hu; subst hu; rw [add_pos_ _ _ (by omega)]; simp only [Nat.zero_add]; rw [World.cell?_alloc_new]; rfl
    | j + 2, hu => simp [Run.cells] at hu
  intro v' w1 hown' hgrow _ _
  refine h v' w1 ?_ hgrow
  unfold RunOwn
  simpa using hown'

/-- but for block b and a slice's own block nothing has turned -/
structure Gapped (w w' : World) (b : Nat) (row : Option Nat) : Prop where
  os : w'.os = w.os
  tape : w'.tape = w.tape
  output : w'.output = w.output
  size : w.heap.size ≤ w'.heap.size
  block : ∀ k, k < w.heap.size → k ≠ b → some k ≠ row → w'.heap[k]? = w.heap[k]?

set_option maxHeartbeats 2000000 in
set_option maxRecDepth 100000 in
theorem gap_any (b : Nat) (at_ e : Int) (v : Value) (l : List Run) (w : World) (hO : Boxed w b 31 v) (hA : Boxed w (b + 1) 3 (.int .i64 at_)) (hv : RunOwn w (b + 2) v l) (hl : l.length ≤ 100) (h0 : 0 ≤ at_) (h1 : at_ ≤ 16) (h2 : 0 ≤ e) (h3 : e ≤ 16) :
    Calls Try.prog 80 #[.int .i64 e, .pointer (some ⟨b + 1, 0, none⟩), .pointer (some ⟨b, 0, none⟩)] w fun e' w' => (∃ u, e' = .returned u) ∧
      ∃ v', Boxed w' b 31 v' ∧ RunOwn w' (b + 2) v' (l ++ gapRun at_ e) ∧ Gapped w w' b v.ownBlock := by
  have a0 := hA.cell
  have a1 := hA.frozen
  have o0 := hO.cell
  have o1 := hO.frozen
  have hlt := hA.lt
  have HO := Lib.hid hO
  have HV := Lib.hid hv
  obtain ⟨A, c, rfl⟩ := own_form hv
  have hrow := hv.lt
  have q0 : IntKind.i64.wrap (e - at_) = e - at_ := IntWalk.i64_in _ (by omega)
  by_cases t0 : at_ < e
  · have HG := Lib.hid (show gapRun at_ e = [⟨at_, e - at_⟩] by unfold gapRun; rw [if_pos t0])
    have HR := Lib.hid hrow
    clear hO hA hv hrow
    go_enter Try.func80, Try.ntmps80
    go_wp2_with (at_builtin; refine append_Run w rfl _ _ rfl (b + 2) (.slice A l.length c) l ⟨at_, e - at_⟩ rfl rfl HV.out (by omega) (by omega) ?_; intro v' w1 hown1 hg1; obtain ⟨g, cap, rfl⟩ := ownsRow_succ (show w1.ownsRow (b + 2) _ 2 v' (l.length + 1) _ by have h := hown1; unfold RunOwn at h; simpa using h); have hne : some b ≠ (Value.slice A l.length c).ownBlock := (fun h => by have := (HR.out b h.symm).1; omega); have hO1 := (HO.out.alloc (.cells #[.int .i64 at_, .int .i64 (e - at_)] 44)).kept hg1 hne; have p0 := hO1.cell; have p1 := hO1.frozen; have hlt1 := hO1.lt)
    go_end0
    refine ⟨⟨_, rfl⟩, _, hO1.set _, ?_, ?_⟩
    · rw [HG.out]
      exact ownsRow_setCell_below hown1 (by simp) _
    · refine ⟨hg1.os, hg1.tape, hg1.output, ?_, fun k hk hkb hkr => ?_⟩
      · have := hg1.size; simp at this ⊢; omega
      · rw [Below.heap_setCell _ _ _ _ hkb, hg1.block k (by simp; omega) hkr, Below.heap_alloc _ _ _ hk]
  · have HG := Lib.hid (show gapRun at_ e = [] by unfold gapRun; rw [if_neg t0])
    have t0' : decide (at_ < e) = false := by simp; omega
    clear hO hA hv hrow t0
    go_enter Try.func80, Try.ntmps80
    go_wp2_with fail
    go_end0
    refine ⟨⟨_, rfl⟩, _, HO.out, ?_, ⟨rfl, rfl, rfl, Nat.le_refl _, fun k _ _ _ => rfl⟩⟩
    rw [HG.out, List.append_nil]; exact HV.out


theorem runsFrom_length : ∀ (l : List Plc) (a : Int), (runsFrom a l).length ≤ l.length + 1
  | [], a => by unfold runsFrom gapRun; split <;> simp
  | x :: l, a => by
    have h1 := runsFrom_length l (endOf x)
    have h2 : (gapRun a x.first).length ≤ 1 := by unfold gapRun; split <;> simp
    rw [runsFrom, List.length_append, List.length_cons]
    omega
theorem runs_next {l : List Plc} {j : Nat} (h : j < l.length) (a : Int) : runsFrom a (l.drop j) = gapRun a l[j].first ++ runsFrom (endOf l[j]) (l.drop (j + 1)) := by
  rw [List.drop_eq_getElem_cons h]; rfl
theorem runs_end {l : List Plc} {j : Nat} (h : ¬ j < l.length) (a : Int) : runsFrom a (l.drop j) = gapRun a 16 := by
  rw [List.drop_eq_nil_of_le (by omega)]; rfl
theorem Gapped.below {w w' : World} {b B : Nat} {row : Option Nat} (h : Gapped w w' b row) (hb : B ≤ b) (hB : B ≤ w.heap.size) (hr : ∀ g, row = some g → B ≤ g) : Below B w w' :=
  ⟨h.os, h.tape, h.output, h.size, fun k hk => h.block k (by omega) (by omega) (fun e => by have := hr k e.symm; omega)⟩
theorem Gapped.cell {w w' : World} {b : Nat} {row : Option Nat} (h : Gapped w w' b row) {p : Addr} (h1 : p.block < w.heap.size) (h2 : p.block ≠ b) (h3 : some p.block ≠ row) : w'.cell? p = w.cell? p := World.cell?_of_block (h.block _ h1 h2 h3)

theorem Gapped.at_ {w w' : World} {b : Nat} {row : Option Nat} (h : Gapped w w' b row) (c o : Nat) (h1 : c < w.heap.size) (h2 : c ≠ b) (h3 : some c ≠ row) : w'.cell? ⟨c, o, none⟩ = w.cell? ⟨c, o, none⟩ := h.cell h1 h2 h3
theorem Gapped.box {w w' : World} {b b' : Nat} {t : TypeId} {v : Value} {row : Option Nat} (h : Gapped w w' b row) (hx : Boxed w b' t v) (h2 : b' ≠ b) (h3 : some b' ≠ row) : Boxed w' b' t v := (h.block _ hx.lt h2 h3).trans hx
theorem box_below {w w' : World} {b B : Nat} {t : TypeId} {v : Value} (hx : Boxed w b t v) (h : Below B w w') (hb : b < B) : Boxed w' b t v := (h.block _ hb).trans hx

set_option maxHeartbeats 4000000 in
set_option maxRecDepth 100000 in
theorem Runs_any (A : Option Addr) (c : Nat) (l : List Plc) (w : World) (h : PlsOk w A l) (hr : regErr l = 0) :
    Calls Try.prog 40 #[.slice A l.length c] w fun e w' => (∃ (A' : Option Addr) (c' : Nat), e = .returned (.slice A' (runsOf l).length c') ∧ RunRow w' A' (runsOf l)) ∧ Below w.heap.size w w' := by
  obtain ⟨h8, hall, h16⟩ := reg_row hr
  have HALL := Lib.hid (show ∀ x ∈ l, x.m.text.size ≤ 256 ∧ 0 ≤ x.first ∧ x.first ≤ 16 ∧ 0 ≤ endOf x ∧ endOf x ≤ 16 from fun x hx => by
    obtain ⟨h1, h2⟩ := hall x hx
    have h3 := many_ok h1
    simp only [regQ, Bool.and_eq_true, decide_eq_true_eq] at h2
    unfold endOf
    exact ⟨(modErr_facts h1).2.2.1, by omega⟩)
  have HP := Lib.hid h
  have HS := Lib.hid (show (runsOf l).length ≤ 9 by have := runsFrom_length l 0; unfold runsOf; omega)
  obtain ⟨R, hR⟩ : ∃ R, R = runsOf l := ⟨_, rfl⟩
  rw [← hR] at HS ⊢
  have HR := Lib.hid hR
  clear h hr hall h16 hR
  obtain ⟨w0, hw0⟩ : ∃ w0, w0 = (w.alloc (.cells #[.slice none 0 0] 31)).alloc (.cells #[.int .i64 0] 3) := ⟨_, rfl⟩
  have hz0 : w0.heap.size = w.heap.size + 1 + 1 := by subst hw0; simp
  have hO0 : Boxed w0 w.heap.size 31 (.slice none 0 0) := by subst hw0; exact (Boxed.new _ _ _).alloc _
  have hA0 : Boxed w0 (w.heap.size + 1) 3 (.int .i64 0) := by
    subst hw0
    have := Boxed.new (w.alloc (.cells #[.slice none 0 0] 31)) 3 (.int .i64 0)
    simpa using this
  have hB0 : Below w.heap.size w w0 := by subst hw0; exact ((Below.refl _ _).alloc (Nat.le_refl _) _).alloc (by simp) _
  subst hw0
  have HO0 := Lib.hid hO0
  have HA0 := Lib.hid hA0
  have HB0 := Lib.hid hB0
  clear hO0 hA0 hB0 hz0
  go_enter Try.func40, Try.ntmps40
  go_wp2_with fail
  go_loopw [11] (fun i wr => ∃ (j : Nat) (a : Int) (v : Value) (pre : List Run), j ≤ l.length ∧ i = .int .i64 j ∧ Boxed wr w.heap.size 31 v ∧ Boxed wr (w.heap.size + 1) 3 (.int .i64 a) ∧ RunOwn wr (w.heap.size + 2) v pre ∧ pre ++ runsFrom a (l.drop j) = R ∧ 0 ≤ a ∧ a ≤ 16 ∧ Below w.heap.size w wr) (fun i _ => l.length - (intOf i).toNat)
  case atStart => exact ⟨0, 0, _, [], by omega, rfl, HO0.out, HA0.out, RunOwn.nil _ _, HR.out.symm, by omega, by omega, HB0.out⟩
  case round =>
    obtain ⟨j, a, v, pre, hj, rfl, hO, hA, hv, hE, ha0, ha1, hb⟩ := hrel
    have HE := Lib.hid hE
    have HB := Lib.hid hb
    have HO := Lib.hid hO
    have HA := Lib.hid hA
    have HV := Lib.hid hv
    have hpl : pre.length ≤ 9 := by have h1 := HS.out; rw [← hE, List.length_append] at h1; omega
    have hA1 := hA.lt
    obtain ⟨vA, vc, rfl⟩ := own_form hv
    have HL := Lib.hid hv.lt
    clear hE hO hA hv
    by_cases hlt : j < l.length
    · have hlt' : (j : Int) < l.length := by omega
      obtain ⟨ad, rfl, hab, h0, h1, h2, h3, h4, h5, h6, h7⟩ := plc_at HP.out.row hb j hlt
      have hwz := hb.size
      have e1 := Lib.hid ((congrArg (pre ++ ·) (runs_next hlt a).symm).trans HE.out)
      obtain ⟨f1, f2, f3, f4, f5⟩ := HALL.out (l[j]'hlt) (List.getElem_mem _)
      obtain ⟨y, hy⟩ : ∃ y, y = l[j]'hlt := ⟨_, rfl⟩
      rw [← hy] at f1 f2 f3 f4 f5 h0 h1 h2 h3 h4 h5 h6 h7 e1
      clear hy
      obtain ⟨wx, hwx⟩ : ∃ wx, wx = wr.alloc (.cells #[.string y.m.name, .int .i64 y.m.major, .int .i64 y.m.minor, .string y.m.text, .slice y.m.eA y.m.ex.length y.m.eC, .slice y.m.iA y.m.im.length y.m.iC, .slice y.m.pA y.m.pa.length y.m.pC, .int .i64 y.first] 46) := ⟨_, rfl⟩
      obtain ⟨x0, x1, x2, x3, x4, x5, x6, x7, hzx, hbx⟩ := box8 hwx
      have hwx' := hwx.symm
      have cG := Lib.hid (gap_any w.heap.size a y.first _ pre wx (hwx ▸ HO.out.alloc _) (hwx ▸ HA.out.alloc _) (hwx ▸ HV.out.alloc _) (by omega) ha0 ha1 f2 f3)
      have cE := Lib.hid (fun W => End_any y W f1 f2 f3)
      have HAX := Lib.hid (show Boxed wx (w.heap.size + 1) 3 (.int .i64 a) from hwx ▸ HA.out.alloc _)
      have HBX := Lib.hid (show Below w.heap.size w wx from hb.trans (hbx.mono hwz))
      obtain ⟨N, hN⟩ : ∃ N, N = endOf y := ⟨_, rfl⟩
      rw [← hN] at f4 f5 cE e1
      clear hwx hbx hN f1 f2 f3
      go_wp2_with (first | (go_at_call 80; refine (cG.out).mono ?_; rintro e w2 ⟨⟨u, rfl⟩, v', hO2, hv2, hg2⟩; have hz2 := hg2.size; have hne : some wr.heap.size ≠ (Value.slice vA pre.length vc).ownBlock := (fun h => by have := (HL.out wr.heap.size h.symm).2; omega); have hne2 : some (w.heap.size + 1) ≠ (Value.slice vA pre.length vc).ownBlock := (fun h => by have := (HL.out (w.heap.size + 1) h.symm).1; omega); have hA2 := Lib.hid (hg2.box HAX.out (by omega) hne2); have k0 := (hg2.at_ wr.heap.size 0 (by omega) (by omega) hne).trans x0; have k1 := (hg2.at_ wr.heap.size 1 (by omega) (by omega) hne).trans x1; have k2 := (hg2.at_ wr.heap.size 2 (by omega) (by omega) hne).trans x2; have k3 := (hg2.at_ wr.heap.size 3 (by omega) (by omega) hne).trans x3; have k4 := (hg2.at_ wr.heap.size 4 (by omega) (by omega) hne).trans x4; have k5 := (hg2.at_ wr.heap.size 5 (by omega) (by omega) hne).trans x5; have k6 := (hg2.at_ wr.heap.size 6 (by omega) (by omega) hne).trans x6; have k7 := (hg2.at_ wr.heap.size 7 (by omega) (by omega) hne).trans x7; have HG2 := Lib.hid hg2) | (go_at_call 79; refine (cE.out _).mono ?_; rintro e w3 ⟨rfl, hb3⟩; have hz3 := hb3.size; have hA3 := box_below hA2.out hb3 hA2.out.lt; have p0 := hA3.cell; have p1 := hA3.frozen))
      go_roundw
      case rel =>
        refine ⟨j + 1, N, v', pre ++ gapRun a y.first, by omega, by go_num, (box_below hO2 hb3 hO2.lt).kept (grownBy_setCell' _ _ _) (by simp), hA3.set _, ownsRow_setCell_below (own_bel hv2 hb3 (Nat.le_refl _)) (by simp) _, by rw [List.append_assoc]; exact e1.out, f4, f5, ?_⟩
        exact ((HBX.out.trans (HG2.out.below (Nat.le_refl _) (by omega) (fun g hg => by have := (HL.out g hg).1; omega))).trans (hb3.mono (by omega))).setCell (by simp) _
      case measure => (simp [intOf]; try omega)
    · have e1 := Lib.hid ((congrArg (pre ++ ·) (runs_end hlt a).symm).trans HE.out)
      have cG := Lib.hid (gap_any w.heap.size a 16 _ pre wr HO.out HA.out HV.out (by omega) ha0 ha1 (by omega) (by omega))
      have HLL := Lib.hid (fun g hg => (HL.out g hg).1)
      go_wp2_with (first | (go_at_call 80; refine (cG.out).mono ?_; rintro e w2 ⟨⟨u, rfl⟩, v', hO2, hv2, hg2⟩; have hz2 := hg2.size; have o0 := hO2.cell; have HB2 := Lib.hid (HB.out.trans (hg2.below (Nat.le_refl _) (by omega) (fun g hg => by have := HLL.out g hg; omega))); rw [show pre ++ gapRun a 16 = R from e1.out] at hv2; obtain ⟨A', c', rfl, hrow⟩ := RunOwn.row hv2; have HROW := Lib.hid hrow))
      go_ret
      exact ⟨⟨_, _, rfl, HROW.out⟩, HB2.out⟩


def freeOf (l : List Plc) : List Run := if regErr l ≠ 0 then [] else runsOf l
set_option maxHeartbeats 1000000 in
set_option maxRecDepth 100000 in
theorem Free_any (A : Option Addr) (c : Nat) (l : List Plc) (w : World) (h : PlsOk w A l) :
    Calls Try.prog 12 #[.slice A l.length c] w fun e w' => (∃ (A' : Option Addr) (c' : Nat), e = .returned (.tuple #[.slice A' (freeOf l).length c', .int .i64 (regErr l)]) ∧ RunRow w' A' (freeOf l)) ∧ Below w.heap.size w w' := by
  have c1 := Lib.hid (RCheck_any A c l w h)
  obtain ⟨E, hE⟩ : ∃ E, E = regErr l := ⟨_, rfl⟩
  have hF : freeOf l = if E ≠ 0 then [] else runsOf l := by unfold freeOf; rw [hE]
  rw [← hE] at c1 ⊢
  by_cases t0 : E = 0
  · obtain rfl := t0
    have c2 := Lib.hid (fun W (hb : Below w.heap.size w W) => Runs_any A c l W (h.below hb) hE.symm)
    rw [if_neg (by omega)] at hF
    rw [← hF] at c2
    clear hE hF h
    go_enter Try.func12, Try.ntmps12
    go_wp2_with (first | (go_at_call 39; refine (c1.out).mono ?_; rintro e w2 ⟨rfl, hb2⟩) | (go_at_call 40; refine (c2.out _ hb2).mono ?_; rintro e w3 ⟨⟨A', c', rfl, hrow⟩, hb3⟩; have HR := Lib.hid hrow))
    go_ret2
    exact ⟨⟨_, _, rfl, HR.out⟩, hb2.trans (hb3.mono hb2.size)⟩
  · have t0' : (E != 0) = true := by simp [t0]
    rw [if_pos t0] at hF
    rw [hF]
    clear hE hF h t0
    go_enter Try.func12, Try.ntmps12
    go_wp2_with (first | (go_at_call 39; refine (c1.out).mono ?_; rintro e w2 ⟨rfl, hb2⟩))
    go_ret2
    exact ⟨⟨none, 0, rfl, Row.nil⟩, hb2⟩

end Go.Proofs.Ytdpacbdejfjkcaa
