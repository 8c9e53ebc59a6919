import Derived.Test.YtjiedaialianmaaGreatG06
import Derived.Test.YtjiedaialianmaaGreatG07
import Derived.Test.YtjiedaialianmaaGreatG04
import Derived.RangeFuncBox
import Derived.Test.YtjiedaialianmaaGreatG05
import Derived.Test.YtjiedaialianmaaGreatG02
section

namespace Go.Proofs.YtjiedaialianmaaGreat
open Go.RowKit

end Go.Proofs.YtjiedaialianmaaGreat
end

section

namespace Go.Proofs.YtjiedaialianmaaGreat
open Go.RowKit

end Go.Proofs.YtjiedaialianmaaGreat
end

section

namespace Go.Proofs.YtjiedaialianmaaGreat
open Go.RowKit
open Gs (Tx)

section
variable (a1 a2 a3 b1 b2 b3 : Option Addr) (a4 a5 a6 b4 b5 b6 : Nat)
end

end Go.Proofs.YtjiedaialianmaaGreat
end

section

namespace Go.Proofs.YtjiedaialianmaaGreat
open Go.RowKit

def Run.cells (r : Run) : List Value := [.int .i64 r.first, .int .i64 r.many]
abbrev Run.v (r : Run) : Value := .agg #[.int .i64 r.first, .int .i64 r.many]
abbrev zeroRun : Value := .agg #[.int .i64 0, .int .i64 0]
theorem Tryz.infoRun : (Tryz.prog.info? 99).map (fun i => (i.zero, i.size, i.bytes)) = some (some zeroRun, 2, 16) := by kernel_rfl
/-- a slice of runs that lies in blocks of the call's own, from block base on -/
def RunOwn (w : World) (base : Nat) (v : Value) (l : List Run) : Prop := w.ownsRow base 99 2 v l.length (l.flatMap Run.cells)
abbrev RunRow (w : World) (A : Option Addr) (l : List Run) : Prop := Row Run.cells 2 w A l
theorem own_form {w : World} {base size n : Nat} {e : TypeId} {v : Value} {xs : List Value} (h : w.ownsRow base e size v n xs) : ∃ (A : Option Addr) (c : Nat), v = .slice A n c := by
  rcases h.2 with ⟨rfl, rfl⟩ | ⟨g', cap, cur, rfl, _⟩
  · exact ⟨_, _, rfl⟩
  · exact ⟨_, _, rfl⟩
theorem own_bel {w w' : World} {base size n B : Nat} {e : TypeId} {v : Value} {xs : List Value} (h : w.ownsRow base e size v n xs) (hb : Below B w w') (hB : w.heap.size ≤ B) : w'.ownsRow base e size v n xs := by
  refine ⟨h.1, ?_⟩
  rcases h.2 with h0 | ⟨g, cap, cur, e1, e2, e3, e4⟩
  · exact .inl h0
  · refine .inr ⟨g, cap, cur, e1, e2, ?_, e4⟩
    have : g < w.heap.size := by
      rcases Nat.lt_or_ge g w.heap.size with hlt | hge
      · exact hlt
      · rw [Array.getElem?_eq_none hge] at e3; cases e3
    rw [hb.block g (by omega)]; exact e3
theorem RunOwn.row {w : World} {base : Nat} {v : Value} {l : List Run} (h : RunOwn w base v l) : ∃ (A : Option Addr) (c : Nat), v = .slice A l.length c ∧ RunRow w A l := by
  obtain ⟨A, c, rfl⟩ := own_form h
  exact ⟨A, c, rfl, Reads.of_own h⟩
theorem RunOwn.nil (w : World) (base : Nat) : RunOwn w base (.slice none 0 0) [] := World.ownsRow_nil _ _ _ _
theorem append_Run (W : World) {ops : Array Oper} {rest : List Oper} {o : Oper} {a : Act} {Q : Exit → Act → World → Prop} (hgd : o.guard = none) (s x : Operand)
    (ho : o.op = .call { callee := .builtin .append, args := #[s, x], argTypes := #[93, 93] }) (base : Nat) (v : Value) (l : List Run) (r : Run) (hs : a.eval s = v)
    (hx : a.eval x = .slice (some ⟨W.heap.size, 0, none⟩) 1 1) (hown : RunOwn W base v l) (hl : l.length ≤ 1000000) (hbase : base ≤ W.heap.size)
    (h : ∀ v' w', RunOwn w' base v' (l ++ [r]) → (W.alloc (.cells #[.int .i64 r.first, .int .i64 r.many] 99)).grownBy w' v.ownBlock → wpList Tryz.prog ops Q rest (a.put o.dst v') w') : wpList Tryz.prog ops Q (o :: rest) a (W.alloc (.cells #[.int .i64 r.first, .int .i64 r.many] 99)) := by
  obtain ⟨i0, hi, hz0, hz1, hz2⟩ := info_parts Tryz.infoRun
  refine wpList_append_own_at (W.alloc (.cells #[.int .i64 r.first, .int .i64 r.many] 99)) hgd s x 93 ho base 99 i0 zeroRun 2 16 Tryz.underlying93 hi hz0 hz1 hz2 rfl (by decide) v l.length (l.flatMap Run.cells) hs (hown.alloc _) ⟨W.heap.size, 0, none⟩ 1 1 r.cells hx rfl
    ?_ (by intro u hu; simp only [Run.cells, List.mem_cons, List.not_mem_nil, or_false] at hu; rcases hu with rfl | rfl <;> rfl) (by simp only [maxLen]; omega) (by omega) (by simp; omega) ?_
  · intro j u hu
    match j, hu with
    | 0, hu => simp only [Run.cells, List.getElem?_cons_zero, Option.some.injEq] at hu; subst hu; rw [add_zero_, World.cell?_alloc_new]; rfl
    | 1, hu => simp only [Run.cells, List.getElem?_cons_succ, List.getElem?_cons_zero, Option.some.injEq] at hu; subst hu; rw [add_pos_ _ _ (by omega)]; simp only [Nat.zero_add]; rw [World.cell?_alloc_new]; rfl
    | j + 2, hu => simp [Run.cells] at hu
  intro v' w1 hown' hgrow _ _
  refine h v' w1 ?_ hgrow
  unfold RunOwn
  simpa using hown'

/-- but for block b and a slice's own block nothing has turned -/
structure Gapped (w w' : World) (b : Nat) (row : Option Nat) : Prop where
  os : w'.os = w.os
  tape : w'.tape = w.tape
  output : w'.output = w.output
  size : w.heap.size ≤ w'.heap.size
  block : ∀ k, k < w.heap.size → k ≠ b → some k ≠ row → w'.heap[k]? = w.heap[k]?

set_option maxHeartbeats 2000000 in
set_option maxRecDepth 100000 in
theorem gap_any (b : Nat) (at_ e : Int) (v : Value) (l : List Run) (w : World) (hO : Boxed w b 93 v) (hA : Boxed w (b + 1) 3 (.int .i64 at_)) (hv : RunOwn w (b + 2) v l) (hl : l.length ≤ 100) (h0 : 0 ≤ at_) (h1 : at_ ≤ 16) (h2 : 0 ≤ e) (h3 : e ≤ 16) :
    Calls Tryz.prog 202 #[.int .i64 e, .pointer (some ⟨b + 1, 0, none⟩), .pointer (some ⟨b, 0, none⟩)] w fun e' w' => (∃ u, e' = .returned u) ∧
      ∃ v', Boxed w' b 93 v' ∧ RunOwn w' (b + 2) v' (l ++ gapRun at_ e) ∧ Gapped w w' b v.ownBlock := by
  have a0 := hA.cell
  have a1 := hA.frozen
  have o0 := hO.cell
  have o1 := hO.frozen
  have hlt := hA.lt
  have HO := Lib.hid hO
  have HV := Lib.hid hv
  obtain ⟨A, c, rfl⟩ := own_form hv
  have hrow := hv.lt
  have q0 : IntKind.i64.wrap (e - at_) = e - at_ := IntWalk.i64_in _ (by omega)
  by_cases t0 : at_ < e
  · have HG := Lib.hid (show gapRun at_ e = [⟨at_, e - at_⟩] by unfold gapRun; rw [if_pos t0])
    have HR := Lib.hid hrow
    clear hO hA hv hrow
    go_enter Tryz.func202, Tryz.ntmps202
    go_wp2_with (at_builtin; refine append_Run w rfl _ _ rfl (b + 2) (.slice A l.length c) l ⟨at_, e - at_⟩ rfl rfl HV.out (by omega) (by omega) ?_; intro v' w1 hown1 hg1; obtain ⟨g, cap, rfl⟩ := ownsRow_succ (show w1.ownsRow (b + 2) _ 2 v' (l.length + 1) _ by have h := hown1; unfold RunOwn at h; simpa using h); have hne : some b ≠ (Value.slice A l.length c).ownBlock := (fun h => by have := (HR.out b h.symm).1; omega); have hO1 := (HO.out.alloc (.cells #[.int .i64 at_, .int .i64 (e - at_)] 99)).kept hg1 hne; have p0 := hO1.cell; have p1 := hO1.frozen; have hlt1 := hO1.lt)
    go_end0
    refine ⟨⟨_, rfl⟩, _, hO1.set _, ?_, ?_⟩
    · rw [HG.out]
      exact ownsRow_setCell_below hown1 (by simp) _
    · refine ⟨hg1.os, hg1.tape, hg1.output, ?_, fun k hk hkb hkr => ?_⟩
      · have := hg1.size; simp at this ⊢; omega
      · rw [Below.heap_setCell _ _ _ _ hkb, hg1.block k (by simp; omega) hkr, Below.heap_alloc _ _ _ hk]
  · have HG := Lib.hid (show gapRun at_ e = [] by unfold gapRun; rw [if_neg t0])
    have t0' : decide (at_ < e) = false := by simp; omega
    clear hO hA hv hrow t0
    go_enter Tryz.func202, Tryz.ntmps202
    go_wp2_with fail
    go_end0
    refine ⟨⟨_, rfl⟩, _, HO.out, ?_, ⟨rfl, rfl, rfl, Nat.le_refl _, fun k _ _ _ => rfl⟩⟩
    rw [HG.out, List.append_nil]; exact HV.out


theorem runsFrom_length : ∀ (l : List Plc) (a : Int), (runsFrom a l).length ≤ l.length + 1
  | [], a => by unfold runsFrom gapRun; split <;> simp
  | x :: l, a => by
    have h1 := runsFrom_length l (endOf x)
    have h2 : (gapRun a x.first).length ≤ 1 := by unfold gapRun; split <;> simp
    rw [runsFrom, List.length_append, List.length_cons]
    omega
theorem runs_next {l : List Plc} {j : Nat} (h : j < l.length) (a : Int) : runsFrom a (l.drop j) = gapRun a l[j].first ++ runsFrom (endOf l[j]) (l.drop (j + 1)) := by
  rw [List.drop_eq_getElem_cons h]; rfl
theorem runs_end {l : List Plc} {j : Nat} (h : ¬ j < l.length) (a : Int) : runsFrom a (l.drop j) = gapRun a 16 := by
  rw [List.drop_eq_nil_of_le (by omega)]; rfl
theorem Gapped.below {w w' : World} {b B : Nat} {row : Option Nat} (h : Gapped w w' b row) (hb : B ≤ b) (hB : B ≤ w.heap.size) (hr : ∀ g, row = some g → B ≤ g) : Below B w w' :=
  ⟨h.os, h.tape, h.output, h.size, fun k hk => h.block k (by omega) (by omega) (fun e => by have := hr k e.symm; omega)⟩
theorem Gapped.cell {w w' : World} {b : Nat} {row : Option Nat} (h : Gapped w w' b row) {p : Addr} (h1 : p.block < w.heap.size) (h2 : p.block ≠ b) (h3 : some p.block ≠ row) : w'.cell? p = w.cell? p := World.cell?_of_block (h.block _ h1 h2 h3)

theorem Gapped.at_ {w w' : World} {b : Nat} {row : Option Nat} (h : Gapped w w' b row) (c o : Nat) (h1 : c < w.heap.size) (h2 : c ≠ b) (h3 : some c ≠ row) : w'.cell? ⟨c, o, none⟩ = w.cell? ⟨c, o, none⟩ := h.cell h1 h2 h3
theorem Gapped.box {w w' : World} {b b' : Nat} {t : TypeId} {v : Value} {row : Option Nat} (h : Gapped w w' b row) (hx : Boxed w b' t v) (h2 : b' ≠ b) (h3 : some b' ≠ row) : Boxed w' b' t v := (h.block _ hx.lt h2 h3).trans hx
theorem box_below {w w' : World} {b B : Nat} {t : TypeId} {v : Value} (hx : Boxed w b t v) (h : Below B w w') (hb : b < B) : Boxed w' b t v := (h.block _ hb).trans hx

set_option maxHeartbeats 4000000 in
set_option maxRecDepth 100000 in
theorem Runs_any (A : Option Addr) (c : Nat) (l : List Plc) (w : World) (h : PlsOk w A l) (hr : regErr l = 0) :
    Calls Tryz.prog 138 #[.slice A l.length c] w fun e w' => (∃ (A' : Option Addr) (c' : Nat), e = .returned (.slice A' (runsOf l).length c') ∧ RunRow w' A' (runsOf l)) ∧ Below w.heap.size w w' := by
  obtain ⟨h8, hall, h16⟩ := reg_row hr
  have HALL := Lib.hid (show ∀ x ∈ l, x.m.text.size ≤ 256 ∧ 0 ≤ x.first ∧ x.first ≤ 16 ∧ 0 ≤ endOf x ∧ endOf x ≤ 16 from fun x hx => by
    obtain ⟨h1, h2⟩ := hall x hx
    have h3 := many_ok h1
    simp only [regQ, Bool.and_eq_true, decide_eq_true_eq] at h2
    unfold endOf
    exact ⟨(modErr_facts h1).2.2.1, by omega⟩)
  have HP := Lib.hid h
  have HS := Lib.hid (show (runsOf l).length ≤ 9 by have := runsFrom_length l 0; unfold runsOf; omega)
  obtain ⟨R, hR⟩ : ∃ R, R = runsOf l := ⟨_, rfl⟩
  rw [← hR] at HS ⊢
  have HR := Lib.hid hR
  clear h hr hall h16 hR
  obtain ⟨w0, hw0⟩ : ∃ w0, w0 = (w.alloc (.cells #[.slice none 0 0] 93)).alloc (.cells #[.int .i64 0] 3) := ⟨_, rfl⟩
  have hz0 : w0.heap.size = w.heap.size + 1 + 1 := by subst hw0; simp
  have hO0 : Boxed w0 w.heap.size 93 (.slice none 0 0) := by subst hw0; exact (Boxed.new _ _ _).alloc _
  have hA0 : Boxed w0 (w.heap.size + 1) 3 (.int .i64 0) := by
    subst hw0
    have := Boxed.new (w.alloc (.cells #[.slice none 0 0] 93)) 3 (.int .i64 0)
    simpa using this
  have hB0 : Below w.heap.size w w0 := by subst hw0; exact ((Below.refl _ _).alloc (Nat.le_refl _) _).alloc (by simp) _
  subst hw0
  have HO0 := Lib.hid hO0
  have HA0 := Lib.hid hA0
  have HB0 := Lib.hid hB0
  clear hO0 hA0 hB0 hz0
  go_enter Tryz.func138, Tryz.ntmps138
  go_wp2_with fail
  go_loopw [11] (fun i wr => ∃ (j : Nat) (a : Int) (v : Value) (pre : List Run), j ≤ l.length ∧ i = .int .i64 j ∧ Boxed wr w.heap.size 93 v ∧ Boxed wr (w.heap.size + 1) 3 (.int .i64 a) ∧ RunOwn wr (w.heap.size + 2) v pre ∧ pre ++ runsFrom a (l.drop j) = R ∧ 0 ≤ a ∧ a ≤ 16 ∧ Below w.heap.size w wr) (fun i _ => l.length - (intOf i).toNat)
  case atStart => exact ⟨0, 0, _, [], by omega, rfl, HO0.out, HA0.out, RunOwn.nil _ _, HR.out.symm, by omega, by omega, HB0.out⟩
  case round =>
    obtain ⟨j, a, v, pre, hj, rfl, hO, hA, hv, hE, ha0, ha1, hb⟩ := hrel
    have HE := Lib.hid hE
    have HB := Lib.hid hb
    have HO := Lib.hid hO
    have HA := Lib.hid hA
    have HV := Lib.hid hv
    have hpl : pre.length ≤ 9 := by have h1 := HS.out; rw [← hE, List.length_append] at h1; omega
    have hA1 := hA.lt
    obtain ⟨vA, vc, rfl⟩ := own_form hv
    have HL := Lib.hid hv.lt
    clear hE hO hA hv
    by_cases hlt : j < l.length
    · have hlt' : (j : Int) < l.length := by omega
      obtain ⟨ad, rfl, hab, h0, h1, h2, h3, h4, h5, h6, h7⟩ := plc_at HP.out.row hb j hlt
      have hwz := hb.size
      have e1 := Lib.hid ((congrArg (pre ++ ·) (runs_next hlt a).symm).trans HE.out)
      obtain ⟨f1, f2, f3, f4, f5⟩ := HALL.out (l[j]'hlt) (List.getElem_mem _)
      obtain ⟨y, hy⟩ : ∃ y, y = l[j]'hlt := ⟨_, rfl⟩
      rw [← hy] at f1 f2 f3 f4 f5 h0 h1 h2 h3 h4 h5 h6 h7 e1
      clear hy
      obtain ⟨wx, hwx⟩ : ∃ wx, wx = wr.alloc (.cells #[.string y.m.name, .int .i64 y.m.major, .int .i64 y.m.minor, .string y.m.text, .slice y.m.eA y.m.ex.length y.m.eC, .slice y.m.iA y.m.im.length y.m.iC, .slice y.m.pA y.m.pa.length y.m.pC, .int .i64 y.first] 83) := ⟨_, rfl⟩
      obtain ⟨x0, x1, x2, x3, x4, x5, x6, x7, hzx, hbx⟩ := box8 hwx
      have hwx' := hwx.symm
      have cG := Lib.hid (gap_any w.heap.size a y.first _ pre wx (hwx ▸ HO.out.alloc _) (hwx ▸ HA.out.alloc _) (hwx ▸ HV.out.alloc _) (by omega) ha0 ha1 f2 f3)
      have cE := Lib.hid (fun W => End_any y W f1 f2 f3)
      have HAX := Lib.hid (show Boxed wx (w.heap.size + 1) 3 (.int .i64 a) from hwx ▸ HA.out.alloc _)
      have HBX := Lib.hid (show Below w.heap.size w wx from hb.trans (hbx.mono hwz))
      obtain ⟨N, hN⟩ : ∃ N, N = endOf y := ⟨_, rfl⟩
      rw [← hN] at f4 f5 cE e1
      clear hwx hbx hN f1 f2 f3
      go_wp2_with (first | (go_at_call 202; refine (cG.out).mono ?_; rintro e w2 ⟨⟨u, rfl⟩, v', hO2, hv2, hg2⟩; have hz2 := hg2.size; have hne : some wr.heap.size ≠ (Value.slice vA pre.length vc).ownBlock := (fun h => by have := (HL.out wr.heap.size h.symm).2; omega); have hne2 : some (w.heap.size + 1) ≠ (Value.slice vA pre.length vc).ownBlock := (fun h => by have := (HL.out (w.heap.size + 1) h.symm).1; omega); have hA2 := Lib.hid (hg2.box HAX.out (by omega) hne2); have k0 := (hg2.at_ wr.heap.size 0 (by omega) (by omega) hne).trans x0; have k1 := (hg2.at_ wr.heap.size 1 (by omega) (by omega) hne).trans x1; have k2 := (hg2.at_ wr.heap.size 2 (by omega) (by omega) hne).trans x2; have k3 := (hg2.at_ wr.heap.size 3 (by omega) (by omega) hne).trans x3; have k4 := (hg2.at_ wr.heap.size 4 (by omega) (by omega) hne).trans x4; have k5 := (hg2.at_ wr.heap.size 5 (by omega) (by omega) hne).trans x5; have k6 := (hg2.at_ wr.heap.size 6 (by omega) (by omega) hne).trans x6; have k7 := (hg2.at_ wr.heap.size 7 (by omega) (by omega) hne).trans x7; have HG2 := Lib.hid hg2) | (go_at_call 91; refine (cE.out _).mono ?_; rintro e w3 ⟨rfl, hb3⟩; have hz3 := hb3.size; have hA3 := box_below hA2.out hb3 hA2.out.lt; have p0 := hA3.cell; have p1 := hA3.frozen))
      go_roundw
      case rel =>
        refine ⟨j + 1, N, v', pre ++ gapRun a y.first, by omega, by go_num, (box_below hO2 hb3 hO2.lt).kept (grownBy_setCell' _ _ _) (by simp), hA3.set _, ownsRow_setCell_below (own_bel hv2 hb3 (Nat.le_refl _)) (by simp) _, by rw [List.append_assoc]; exact e1.out, f4, f5, ?_⟩
        exact ((HBX.out.trans (HG2.out.below (Nat.le_refl _) (by omega) (fun g hg => by have := (HL.out g hg).1; omega))).trans (hb3.mono (by omega))).setCell (by simp) _
      case measure => (simp [intOf]; try omega)
    · have e1 := Lib.hid ((congrArg (pre ++ ·) (runs_end hlt a).symm).trans HE.out)
      have cG := Lib.hid (gap_any w.heap.size a 16 _ pre wr HO.out HA.out HV.out (by omega) ha0 ha1 (by omega) (by omega))
      have HLL := Lib.hid (fun g hg => (HL.out g hg).1)
      go_wp2_with (first | (go_at_call 202; refine (cG.out).mono ?_; rintro e w2 ⟨⟨u, rfl⟩, v', hO2, hv2, hg2⟩; have hz2 := hg2.size; have o0 := hO2.cell; have HB2 := Lib.hid (HB.out.trans (hg2.below (Nat.le_refl _) (by omega) (fun g hg => by have := HLL.out g hg; omega))); rw [show pre ++ gapRun a 16 = R from e1.out] at hv2; obtain ⟨A', c', rfl, hrow⟩ := RunOwn.row hv2; have HROW := Lib.hid hrow))
      go_ret
      exact ⟨⟨_, _, rfl, HROW.out⟩, HB2.out⟩


end Go.Proofs.YtjiedaialianmaaGreat
end

section

namespace Go.Proofs.YtjiedaialianmaaGreat
open Go.RowKit

theorem run_at {w w' : World} {A : Option Addr} {l : List Run} (h : Row Run.cells 2 w A l) (hb : Below w.heap.size w w') (i : Nat) (hi : i < l.length) :
    ∃ ad, A = some ad ∧ ad.block < w.heap.size ∧ w'.cell? (ad.add (i * 2)) = some (iv l[i].first) ∧ w'.cell? ⟨(ad.add (i * 2)).block, (ad.add (i * 2)).off + 1, none⟩ = some (iv l[i].many) := by
  obtain ⟨ad, rfl, hab, hc⟩ := Row.at_ (enc := Run.cells) (k := 2) (fun _ => rfl) h i hi
  have e0 := hc 0 _ rfl
  rw [add_zero_] at e0
  have hk : ∀ j u, 0 < j → (Run.cells l[i])[j]? = some u → w'.cell? ⟨(ad.add (i * 2)).block, (ad.add (i * 2)).off + j, none⟩ = some u := fun j u hj hu => by
    rw [← add_pos_ _ _ hj]
    exact (hb.cell (by rw [block_of_add, block_of_add]; exact hab)).trans (hc j u hu)
  exact ⟨ad, rfl, hab, (hb.cell (by rw [block_of_add]; exact hab)).trans e0, hk 1 _ (by omega) rfl⟩

set_option maxHeartbeats 2000000 in
set_option maxRecDepth 100000 in
theorem IdxRun_any (A : Option Addr) (c : Nat) (l : List Run) (g : Nat) (lb : Array Value) (q : Run → Bool) (w : World) (eg : ∀ args w, (callFunc g args).run Tryz.prog w = .ok (.enter g args) w) (h : Row Run.cells 2 w A l) (hl : l.length ≤ big)
    (hq : ∀ x ∈ l, ∀ W, Below w.heap.size w W → Calls Tryz.prog g (#[x.v] ++ lb) W fun e w' => e = .returned (.bool (q x)) ∧ Below W.heap.size W w') :
    Calls Tryz.prog 238 #[.slice A l.length c, .func (.func g) #[] lb] w fun e w' => e = .returned (.int .i64 (idxOf q l)) ∧ Below w.heap.size w w' := by
  unfold big at hl
  have HP := Lib.hid h
  have HQ := Lib.hid hq
  clear h hq
  go_enter Tryz.func238, Tryz.ntmps238
  go_wp2_with fail
  go_loopw [8] (fun i wr => ∃ j : Nat, j ≤ l.length ∧ i = .int .i64 j ∧ (∀ k (hk : k < l.length), k < j → q l[k] = false) ∧ Below w.heap.size w wr) (fun i _ => l.length - (intOf i).toNat)
  case atStart => exact ⟨0, by omega, rfl, by omega, Below.refl _ _⟩
  case round =>
    obtain ⟨j, hj, rfl, hN, hb⟩ := hrel
    have HN := Lib.hid hN
    have HB := Lib.hid hb
    clear hN
    by_cases hlt : j < l.length
    · have hlt' : (j : Int) < l.length := by omega
      obtain ⟨ad, rfl, hab, h0, h1⟩ := run_at HP.out hb j hlt
      have hwz := hb.size
      have c2 := Lib.hid (show Calls Tryz.prog g (#[(l[j]'hlt).v] ++ lb) wr fun e w' => e = .returned (.bool (q (l[j]'hlt))) ∧ Below wr.heap.size wr w' from HQ.out (l[j]'hlt) (List.getElem_mem _) wr HB.out)
      obtain ⟨bq, hbq⟩ : ∃ bq, bq = q (l[j]'hlt) := ⟨_, rfl⟩
      rw [← hbq] at c2
      have HBQ := Lib.hid hbq
      clear hbq hb
      cases bq
      · go_wp2_with (go_at_fn g; refine (c2.out).mono ?_; rintro e w3 ⟨rfl, hb3⟩)
        go_roundw
        case rel => exact ⟨j + 1, by omega, by go_num, fun k hk hkj => by rcases Nat.lt_succ_iff_lt_or_eq.1 hkj with h | rfl; exact HN.out k hk h; exact HBQ.out.symm, HB.out.trans (hb3.mono (by omega))⟩
        case measure => (simp [intOf]; try omega)
      · have e1 := Lib.hid (idxOf_some hlt HN.out HBQ.out.symm)
        go_wp2_with (go_at_fn g; refine (c2.out).mono ?_; rintro e w3 ⟨rfl, hb3⟩)
        go_ret
        exact ⟨ret_int e1.out.symm, HB.out.trans (hb3.mono (by omega))⟩
    · have e1 := Lib.hid (idxOf_none (q := q) (l := l) (fun k hk => HN.out k hk (by omega)))
      go_wp2_with fail
      go_ret
      exact ⟨ret_int e1.out.symm, HB.out⟩

def runQ (many : Int) (r : Run) : Bool := decide (many ≤ r.many)
set_option maxHeartbeats 1000000 in
set_option maxRecDepth 100000 in
theorem fitQ_any (r : Run) (many : Int) (b : Nat) (w : World) (hc : w.cell? ⟨b, 0, none⟩ = some (.int .i64 many)) (hb : b < w.heap.size) :
    Calls Tryz.prog 239 #[r.v, .pointer (some ⟨b, 0, none⟩)] w fun e w' => e = .returned (.bool (runQ many r)) ∧ Below w.heap.size w w' := by
  have hne : b ≠ w.heap.size := by omega
  have e : decide (many ≤ r.many) = runQ many r := rfl
  go_enter Tryz.func239, Tryz.ntmps239
  go_wp2_with fail
  go_ret
  exact ⟨ret_bool (by first | exact e | rfl), (Below.refl _ _).alloc (Nat.le_refl _) _⟩
theorem fit_cases (many : Int) (l : List Run) : (idxOf (runQ many) l = -1 ∧ fitIn many l = -1) ∨ ∃ j, ∃ h : j < l.length, idxOf (runQ many) l = j ∧ fitIn many l = l[j].first := by
  rcases find_cases (runQ many) l with ⟨e1, e2⟩ | ⟨j, hj, e1, e2⟩
  · exact .inl ⟨e1, by unfold fitIn; rw [show (fun r : Run => decide (many ≤ r.many)) = runQ many from rfl, e2]⟩
  · exact .inr ⟨j, hj, e1, by unfold fitIn; rw [show (fun r : Run => decide (many ≤ r.many)) = runQ many from rfl, e2]⟩

set_option maxHeartbeats 2000000 in
set_option maxRecDepth 100000 in
theorem Fit_any (A : Option Addr) (c : Nat) (l : List Plc) (many : Int) (w : World) (h : PlsOk w A l) (hr : regErr l = 0) :
    Calls Tryz.prog 190 #[.slice A l.length c, .int .i64 many] w fun e w' => e = .returned (.int .i64 (fitIn many (runsOf l))) ∧ Below w.heap.size w w' := by
  obtain ⟨w0, hw0⟩ : ∃ w0, w0 = w.alloc (.cells #[.int .i64 many] 3) := ⟨_, rfl⟩
  have hx0 : Boxed w0 w.heap.size 3 (.int .i64 many) := hw0 ▸ Boxed.new _ _ _
  have hz0 : w0.heap.size = w.heap.size + 1 := by subst hw0; simp
  have hb0 : Below w.heap.size w w0 := by subst hw0; exact (Below.refl _ _).alloc (Nat.le_refl _) _
  have hw0' := hw0.symm
  have HX := Lib.hid hx0
  have HB := Lib.hid hb0
  have HS := Lib.hid (show (runsOf l).length ≤ 9 by have := runsFrom_length l 0; have := (reg_row hr).1; unfold runsOf; omega)
  have c1 := Lib.hid (Runs_any A c l w0 (h.below hb0) hr)
  have h0 := Lib.hid (fit_cases many (runsOf l))
  obtain ⟨R, hR⟩ : ∃ R, R = runsOf l := ⟨_, rfl⟩
  rw [← hR] at c1 h0 HS ⊢
  have c2 := Lib.hid (fun A' c' W (hb : Below w0.heap.size w0 W) (hrow : RunRow W A' R) => IdxRun_any A' c' R 239 #[.pointer (some ⟨w.heap.size, 0, none⟩)] (runQ many) W (enters_of Tryz.func239 (by kernel_rfl) rfl) hrow (by have := HS.out; unfold big; omega)
    (fun x _ W' hb' => fitQ_any x many w.heap.size W' (box_below (box_below HX.out hb (by omega)) hb' (by have := hb.size; omega)).cell (by have := hb.size; have := hb'.size; omega)))
  clear hw0 hx0 hb0 h hr hR
  rcases h0.out with ⟨e1, e2⟩ | ⟨j, hj, e1, e2⟩
  · rw [e1] at c2
    rw [e2]
    clear e1 e2 h0
    go_enter Tryz.func190, Tryz.ntmps190
    go_wp2_with (first | (go_at_call 138; refine (c1.out).mono ?_; rintro e w2 ⟨⟨A', c', rfl, hrow⟩, hb2⟩; have HR := Lib.hid hrow; clear hrow) | (go_at_call 238; refine (c2.out _ _ _ hb2 HR.out).mono ?_; rintro e w3 ⟨rfl, hb3⟩))
    go_ret
    exact ⟨rfl, HB.out.trans ((hb2.mono (by omega)).trans (hb3.mono (by have := hb2.size; omega)))⟩
  · rw [e1] at c2
    rw [e2]
    have hj' : (j : Int) < R.length := by omega
    have hj0 : (0 : Int) ≤ j := by omega
    clear e1 e2 h0
    go_enter Tryz.func190, Tryz.ntmps190
    go_wp2_with (first | (go_at_call 138; refine (c1.out).mono ?_; rintro e w2 ⟨⟨A', c', rfl, hrow⟩, hb2⟩; have HR := Lib.hid hrow; clear hrow) | (go_at_call 238; refine (c2.out _ _ _ hb2 HR.out).mono ?_; rintro e w3 ⟨rfl, hb3⟩; obtain ⟨ad, rfl, hab, k0, k1⟩ := run_at HR.out hb3 j hj))
    go_ret
    exact ⟨rfl, HB.out.trans ((hb2.mono (by omega)).trans (hb3.mono (by have := hb2.size; omega)))⟩

end Go.Proofs.YtjiedaialianmaaGreat
end

section

namespace Go.Proofs.YtjiedaialianmaaGreat
open Go.RowKit

/-- a block of 16 bools that reads as u -/
def Bits (w : World) (b : Nat) (u : Nat → Bool) : Prop := ∀ k, k < 16 → w.cell? ⟨b, k, none⟩ = some (.bool (u k)) ∧ w.frozen? ⟨b, k, none⟩ = false
theorem Bits.below {w w' : World} {b B : Nat} {u : Nat → Bool} (h : Bits w b u) (hb : Below B w w') (hB : b < B) : Bits w' b u := fun k hk => ⟨(hb.cell (p := ⟨b, k, none⟩) hB).trans (h k hk).1, (hb.frozen (p := ⟨b, k, none⟩) hB).trans (h k hk).2⟩
theorem Bits.congr {w : World} {b : Nat} {u u' : Nat → Bool} (h : Bits w b u) (e : ∀ k, k < 16 → u k = u' k) : Bits w b u' := fun k hk => by rw [← e k hk]; exact h k hk
theorem Bits.set {w : World} {b : Nat} {u : Nat → Bool} (h : Bits w b u) (i : Nat) (hi : i < 16) (v : Bool) : Bits (w.setCell ⟨b, i, none⟩ (.bool v)) b (fun k => if k = i then v else u k) := fun k hk => by
  refine ⟨?_, by rw [World.frozen?_setCell]; exact (h k hk).2⟩
  by_cases e : k = i
  · subst e
    simp only [if_pos]
    exact World.cell?_setCell_same' _ _ _ (by rw [(h k hk).1]; rfl)
  · simp only [if_neg e]
    rw [World.cell?_setCell_other _ _ _ _ (by intro h2; injection h2 with _ h3 _; exact e h3.symm)]
    exact (h k hk).1

theorem bits_zero (w : World) (t : TypeId) : Bits (w.alloc (.cells #[.bool false, .bool false, .bool false, .bool false, .bool false, .bool false, .bool false, .bool false, .bool false, .bool false, .bool false, .bool false, .bool false, .bool false, .bool false, .bool false] t)) w.heap.size (usedIn []) := fun k hk => by
  refine ⟨?_, by unfold World.frozen?; rw [show (w.alloc _).heap[(⟨w.heap.size, k, none⟩ : Addr).block]? = _ from heap_alloc_new w _]; simp⟩
  rw [World.cell?_alloc_new]
  show _ = some (Value.bool false)
  match k, hk with
  | 0, _ | 1, _ | 2, _ | 3, _ | 4, _ | 5, _ | 6, _ | 7, _ | 8, _ | 9, _ | 10, _ | 11, _ | 12, _ | 13, _ | 14, _ | 15, _ => rfl
  | k + 16, h => exact absurd h (by omega)
theorem used_take {l : List Plc} {j : Nat} (h : j < l.length) (i : Nat) : usedIn (l.take (j + 1)) i = (usedIn (l.take j) i || (decide (l[j].first ≤ i) && decide ((i : Int) < endOf l[j]))) := by
  unfold usedIn
  rw [List.take_succ_eq_append_getElem h, List.any_append]
  simp

theorem RunOwn.last {w : World} {base : Nat} {A : Option Addr} {K c : Nat} {pre : List Run} {r : Run} (h : RunOwn w base (.slice A K c) (pre ++ [r])) :
    ∃ g, A = some ⟨g, 0, none⟩ ∧ base ≤ g ∧ w.cell? ⟨g, pre.length * 2 + 1, none⟩ = some (.int .i64 r.many) ∧ w.frozen? ⟨g, pre.length * 2 + 1, none⟩ = false ∧
      ∀ m, RunOwn (w.setCell ⟨g, pre.length * 2 + 1, none⟩ (.int .i64 m)) base (.slice A K c) (pre ++ [⟨r.first, m⟩]) := by
  have hlen : (pre ++ [r]).length = pre.length + 1 := by simp
  have hfl : (pre.flatMap Run.cells).length = pre.length * 2 := flat_length (enc := Run.cells) (k := 2) (fun _ => rfl) pre
  obtain ⟨h1, h2⟩ := h
  rcases h2 with ⟨_, h0⟩ | ⟨g, cap, cur, hv, hg, hb, hnc, hcm, hsz, htk⟩
  · rw [hlen] at h0; omega
  injection hv with ha hk hc
  subst ha
  have hcs : cur.toList[pre.length * 2 + 1]? = some (.int .i64 r.many) := by
    have : (cur.toList.take ((pre ++ [r]).length * 2))[pre.length * 2 + 1]? = some (.int .i64 r.many) := by
      rw [htk, List.flatMap_append, List.getElem?_append_right (by omega), hfl, show pre.length * 2 + 1 - pre.length * 2 = 1 by omega]; rfl
    rwa [List.getElem?_take_of_lt (by rw [hlen]; omega)] at this
  have hcell : w.cell? ⟨g, pre.length * 2 + 1, none⟩ = some (.int .i64 r.many) := by
    simp only [World.cell?, hb]
    simpa using hcs
  refine ⟨g, rfl, hg, hcell, frozen_of_row _ _ _ _ _ hb, fun m => ?_⟩
  refine ⟨by simp [List.flatMap_append, hfl, Run.cells]; omega, .inr ⟨g, cap, cur.setIfInBounds (pre.length * 2 + 1) (.int .i64 m), ?_, hg, heap_setCell_same w g _ cur _ _ hb, ?_, hcm, by simpa using hsz, ?_⟩⟩
  · rw [← hc, hk]; simp
  · simpa using hnc
  · rw [Array.toList_setIfInBounds, List.take_set, show (pre ++ [(⟨r.first, m⟩ : Run)]).length = (pre ++ [r]).length by simp, htk, List.flatMap_append, List.flatMap_append, List.set_append_right _ _ (by omega), hfl, show pre.length * 2 + 1 - pre.length * 2 = 1 by omega]
    rfl

set_option maxHeartbeats 4000000 in
set_option maxRecDepth 100000 in
theorem FreeOf_any (A : Option Addr) (c : Nat) (l : List Plc) (w : World) (h : PlsOk w A l) (hr : regErr l = 0) :
    Calls Tryz.prog 180 #[.slice A l.length c] w fun e w' => (∃ (A' : Option Addr) (c' : Nat), e = .returned (.slice A' (runsOf l).length c') ∧ RunRow w' A' (runsOf l)) ∧ Below w.heap.size w w' := by
  have h8 := (reg_row hr).1
  have HP := Lib.hid h
  have HALL := Lib.hid (show ∀ x ∈ l, x.m.text.size ≤ 256 ∧ 0 ≤ x.first ∧ x.first ≤ 16 ∧ 1 ≤ manyOf x.m ∧ endOf x ≤ 16 from fun x hx => by
    obtain ⟨h1, h2⟩ := (reg_row hr).2.1 x hx
    have h3 := many_ok h1
    simp only [regQ, Bool.and_eq_true, decide_eq_true_eq] at h2
    unfold endOf
    exact ⟨(modErr_facts h1).2.2.1, by omega⟩)
  have HB0 := Lib.hid (bits_zero w 261)
  have HRUN := Lib.hid (freeUpto_runsOf (reg_row hr).2.2)
  obtain ⟨R, hRR⟩ : ∃ R, R = runsOf l := ⟨_, rfl⟩
  rw [← hRR] at HRUN ⊢
  clear h hr hRR
  go_enter Tryz.func180, Tryz.ntmps180
  go_wp2_with fail
  go_loopw [4] (fun i wr => ∃ (j : Nat), j ≤ l.length ∧ i = .int .i64 j ∧ Bits wr w.heap.size (usedIn (l.take j)) ∧ Below w.heap.size w wr) (fun i _ => l.length - (intOf i).toNat)
  case atStart => exact ⟨0, by omega, rfl, HB0.out, (Below.refl _ _).alloc (Nat.le_refl _) _⟩
  case round =>
    obtain ⟨j, hj, rfl, hbits, hb⟩ := hrel
    have HB := Lib.hid hb
    have HI := Lib.hid hbits
    have hBw : w.heap.size < wr.heap.size := by
      have := (hbits 0 (by omega)).1
      exact block_lt_of_cell this
    clear hbits
    by_cases hlt : j < l.length
    · have hlt' : (j : Int) < l.length := by omega
      obtain ⟨f1, f2, f3, f4, f5⟩ := HALL.out (l[j]'hlt) (List.getElem_mem _)
      have hU := Lib.hid (used_take hlt)
      have HROW := Lib.hid (fun (W : World) (hbW : Below w.heap.size w W) => plc_at HP.out.row hbW j hlt)
      obtain ⟨y, hy⟩ : ∃ y, y = l[j]'hlt := ⟨_, rfl⟩
      rw [← hy] at f1 f2 f3 f4 f5 hU HROW
      obtain ⟨f, hf⟩ : ∃ f : Nat, y.first = f := ⟨y.first.toNat, by omega⟩
      obtain ⟨M, hM⟩ : ∃ M : Nat, manyOf y.m = M := ⟨(manyOf y.m).toNat, by omega⟩
      have he : endOf y = y.first + manyOf y.m := rfl
      have hfm : f + M ≤ 16 := by omega
      have cS := Lib.hid (fun W => SizeOf_any y.m W (by unfold big; omega))
      rw [hM] at cS
      have hU2 := Lib.hid (show ∀ i : Nat, usedIn (l.take (j + 1)) i = (usedIn (l.take j) i || (decide (f ≤ i) && decide (i < f + M))) from fun i => by rw [hU.out i, hf, show endOf y = ((f + M : Nat) : Int) by omega]; congr 2 <;> simp <;> omega)
      have HF := Lib.hid hf
      clear he f1 f2 f3 f4 f5 hU hy hM hb hf
      go_wp2_with fail
      go_loopw [5] (fun i wr2 => ∃ (k : Nat), k ≤ M ∧ i = .int .i64 k ∧ Bits wr2 w.heap.size (fun i => usedIn (l.take j) i || (decide (f ≤ i) && decide (i < f + k))) ∧ Below w.heap.size w wr2) (fun i _ => M - (intOf i).toNat)
      case atStart => exact ⟨0, by omega, rfl, HI.out.congr (fun k _ => by simp; omega), HB.out⟩
      case round =>
        obtain ⟨k, hk, rfl, hbits2, hb2⟩ := hrel
        have HB2 := Lib.hid hb2
        have HI2 := Lib.hid hbits2
        have hBw2 : w.heap.size < wr.heap.size := block_lt_of_cell (hbits2 0 (by omega)).1
        clear hbits2
        obtain ⟨ad, rfl, hab, h0, h1, h2, h3, h4, h5, h6, h7⟩ := HROW.out wr HB2.out
        by_cases hkm : k < M
        · have hkm' : (k : Int) < M := by omega
          obtain ⟨s, hs⟩ : ∃ s, s = f + k := ⟨_, rfl⟩
          have q1 : IntKind.i64.wrap (y.first + (k : Int)) = (s : Int) := by rw [HF.out, IntWalk.i64_in _ (by omega)]; omega
          have hs16 : (s : Int) < 16 := by omega
          have hs0 : (0 : Int) ≤ (s : Int) := by omega
          have HSK := Lib.hid hs
          clear hs
          go_wp2_with (go_at_call 107; refine (cS.out _).mono ?_; rintro e w3 ⟨rfl, hb3⟩; have hb3' := hb3.mono (show w.heap.size + 1 ≤ wr.heap.size by omega); obtain ⟨p0, p1⟩ := (HI2.out.below hb3' (by omega)) s (by omega); obtain ⟨ad', e', _, k0, k1, k2, k3, k4, k5, k6, k7⟩ := HROW.out w3 (HB2.out.trans (hb3'.mono (by omega))); obtain rfl := Option.some.inj e'; have hz3 := hb3.size)
          go_roundw
          case rel =>
            refine ⟨k + 1, by omega, by go_num, ?_, ((HB2.out.trans (hb3'.mono (by omega))).setCell (by simp) _)⟩
            refine ((HI2.out.below hb3' (by omega)).set s (by omega) true).congr fun i _ => ?_
            have := HSK.out
            by_cases hi : i = s
            · rw [if_pos hi]; simp; omega
            · rw [if_neg hi]
              congr 1
              rw [Bool.eq_iff_iff]
              simp; omega
          case measure => (simp [intOf]; try omega)
        · have hkm' : decide ((k : Int) < M) = false := by simp; omega
          have HKM := Lib.hid (show k = M by omega)
          go_wp2_with (go_at_call 107; refine (cS.out _).mono ?_; rintro e w3 ⟨rfl, hb3⟩; have hb3' := hb3.mono (show w.heap.size + 1 ≤ wr.heap.size by omega))
          go_roundw
          case rel =>
            refine ⟨j + 1, by omega, by go_num, ?_, HB2.out.trans (hb3'.mono (by omega))⟩
            refine (HI2.out.below hb3' (by omega)).congr fun i _ => ?_
            rw [hU2.out i, HKM.out]
          case measure => (simp [intOf]; try omega)
    · have e0 : l.take j = l := List.take_of_length_le (by omega)
      rw [e0] at HI
      obtain ⟨u, hu⟩ : ∃ u, u = usedIn l := ⟨_, rfl⟩
      rw [← hu] at HI HRUN
      have hlt' : decide ((j : Int) < l.length) = false := by simp; omega
      clear e0 hu hb HALL HB0
      go_wp2_with fail
      go_loopw [6, 7] (fun v i wr => ∃ (n : Nat), n ≤ 16 ∧ i = .int .i64 n ∧ Bits wr w.heap.size u ∧ RunOwn wr (w.heap.size + 1) v (freeUpto u n) ∧ (freeUpto u n).length ≤ n ∧ Below w.heap.size w wr) (fun _ i _ => 16 - (intOf i).toNat)
      case atStart => exact ⟨0, by omega, rfl, HI.out, RunOwn.nil _ _, by simp [freeUpto], HB.out⟩
      case round =>
        obtain ⟨n, hn, rfl, hbits2, hown, hln, hb2⟩ := hrel
        have HB2 := Lib.hid hb2
        have HI2 := Lib.hid hbits2
        have hBw2 : w.heap.size < wr.heap.size := block_lt_of_cell (hbits2 0 (by omega)).1
        obtain ⟨K, hK⟩ : ∃ K, K = (freeUpto u n).length := ⟨_, rfl⟩
        have hown' := hown
        unfold RunOwn at hown'
        rw [← hK] at hln hown'
        obtain ⟨vA, vc, rfl⟩ := own_form hown'
        have HO := Lib.hid hown
        have HK := Lib.hid hK
        clear hbits2 hown hown' hb2 hK
        by_cases hn16 : n < 16
        · have hn16' : (n : Int) < 16 := by omega
          obtain ⟨p0, p1⟩ := HI2.out n hn16
          obtain ⟨b, hb⟩ : ∃ b, b = u n := ⟨_, rfl⟩
          rw [← hb] at p0
          cases b
          · by_cases hn0 : 0 < n
            · have hn0' : (0 : Int) < n := by omega
              obtain ⟨k, hk⟩ : ∃ k, n = k + 1 := ⟨n - 1, by omega⟩
              have hk16 : k < 16 := by omega
              have q1 : IntKind.i64.wrap ((n : Int) - 1) = k := by rw [IntWalk.i64_in _ (by omega)]; omega
              have hk0 : (0 : Int) ≤ k := by omega
              have hk1 : (k : Int) < 16 := by omega
              obtain ⟨m0, m1⟩ := HI2.out k hk16
              obtain ⟨b2, hb2⟩ : ∃ b2, b2 = u k := ⟨_, rfl⟩
              rw [← hb2] at m0
              cases b2
              · have hprev : 0 < n ∧ u (n - 1) = false := ⟨hn0, by rw [show n - 1 = k by omega]; exact hb2.symm⟩
                have e1 := freeUpto_more hb.symm hprev
                obtain ⟨pre, r, e2, e3, e4⟩ := freeUpto_last hprev.1 hprev.2
                rw [e2, bump_last] at e1
                have HE1 := Lib.hid e1
                have hown := HO.out
                have hK2 : K = pre.length + 1 := by rw [HK.out, e2]; simp
                rw [e2] at hown
                obtain ⟨g, hvA, hg, t0, t1, t2⟩ := RunOwn.last hown
                subst hvA
                obtain ⟨p, hp⟩ : ∃ p, p = pre.length := ⟨_, rfl⟩
                rw [← hp] at t0 t1 t2 hK2
                have q2 : IntKind.i64.wrap ((K : Int) - 1) = p := by rw [IntWalk.i64_in _ (by omega)]; omega
                have q3 : (p : Int) < K := by omega
                have q4 : (0 : Int) ≤ p := by omega
                have q5 : IntKind.i64.wrap (r.many + 1) = r.many + 1 := IntWalk.i64_in _ (by omega)
                have T2 := Lib.hid (t2 (r.many + 1))
                have HLN := Lib.hid (show (pre ++ [(⟨r.first, r.many + 1⟩ : Run)]).length ≤ n + 1 by simp; omega)
                clear hb hb2 hk e1 e2 e3 e4 hown hK2 hp t2 hprev
                go_wp2_with fail
                go_roundw
                case rel => exact ⟨n + 1, by omega, by go_num, fun i hi => ⟨(World.cell?_setCell_other _ _ _ _ (by intro h2; injection h2 with h3 _ _; omega)).trans (HI2.out i hi).1, by rw [World.frozen?_setCell]; exact (HI2.out i hi).2⟩, by rw [HE1.out]; exact T2.out, by rw [HE1.out]; exact HLN.out, HB2.out.setCell (by simp; omega) _⟩
                case measure => (simp [intOf]; try omega)
              · have hprev : ¬ (0 < n ∧ u (n - 1) = false) := fun h => by have := h.2; rw [show n - 1 = k by omega, ← hb2] at this; cases this
                have e1 := Lib.hid (freeUpto_new hb.symm hprev)
                clear hb hb2 hk hprev
                go_wp2_with (at_builtin; refine append_Run wr rfl _ _ rfl (w.heap.size + 1) (.slice vA K vc) (freeUpto u n) ⟨n, 1⟩ rfl rfl HO.out (by have := HK.out; omega) (by omega) ?_; intro v' w1 hown1 hg1; have HOWN := Lib.hid hown1; have HG := Lib.hid hg1; clear hown1 hg1)
                go_roundw
                case rel =>
                  have hbel : Below (w.heap.size + 1) wr w1 := ((Below.refl _ wr).alloc (by omega) _).grown HG.out (by simp; omega) (fun g hg => (HO.out.lt g hg).1)
                  exact ⟨n + 1, by omega, by go_num, HI2.out.below hbel (by omega), by rw [e1.out]; exact HOWN.out, by have hkk := HK.out; clear HK; rw [e1.out, List.length_append, List.length_singleton, ← hkk]; omega, HB2.out.trans (hbel.mono (by omega))⟩
                case measure => (simp [intOf]; try omega)
            · have e1 := Lib.hid (freeUpto_new hb.symm (fun h => hn0 h.1))
              have hn0' : decide ((0 : Int) < n) = false := by simp; omega
              clear hb
              go_wp2_with (at_builtin; refine append_Run wr rfl _ _ rfl (w.heap.size + 1) (.slice vA K vc) (freeUpto u n) ⟨n, 1⟩ rfl rfl HO.out (by have := HK.out; omega) (by omega) ?_; intro v' w1 hown1 hg1; have HOWN := Lib.hid hown1; have HG := Lib.hid hg1; clear hown1 hg1)
              go_roundw
              case rel =>
                have hbel : Below (w.heap.size + 1) wr w1 := ((Below.refl _ wr).alloc (by omega) _).grown HG.out (by simp; omega) (fun g hg => (HO.out.lt g hg).1)
                exact ⟨n + 1, by omega, by go_num, HI2.out.below hbel (by omega), by rw [e1.out]; exact HOWN.out, by have hkk := HK.out; clear HK; rw [e1.out, List.length_append, List.length_singleton, ← hkk]; omega, HB2.out.trans (hbel.mono (by omega))⟩
              case measure => (simp [intOf]; try omega)
          · have e1 := Lib.hid (freeUpto_used hb.symm)
            clear hb
            go_wp2_with fail
            go_roundw
            case rel => exact ⟨n + 1, by omega, by go_num, HI2.out, e1.out ▸ HO.out, by have hkk := HK.out; rw [e1.out, ← hkk]; omega, HB2.out⟩
            case measure => (simp [intOf]; try omega)
        · have hn16' : decide ((n : Int) < 16) = false := by simp; omega
          obtain rfl : n = 16 := by omega
          obtain ⟨A', c', hv, hrow⟩ := RunOwn.row HO.out
          injection hv with hv1 _ hv2
          subst hv1
          have HROW := Lib.hid (show RunRow wr vA R from HRUN.out ▸ hrow)
          have HE := Lib.hid (show Value.slice vA K vc = .slice vA R.length vc by rw [HK.out, HRUN.out])
          clear hv2 hrow hln
          go_wp2_with fail
          go_ret
          refine ⟨?_, HB2.out⟩
          first | exact ⟨vA, vc, congrArg Ending.returned HE.out, HROW.out⟩ | exact ⟨vA, ⟨vc, congrArg Ending.returned HE.out⟩, HROW.out⟩
end Go.Proofs.YtjiedaialianmaaGreat
end

section

namespace Go.Proofs.YtjiedaialianmaaGreat
open Go.RowKit

theorem fitIn_cons {many : Int} {r : Run} {l : List Run} : fitIn many (r :: l) = if many ≤ r.many then r.first else fitIn many l := by
  unfold fitIn
  by_cases h1 : many ≤ r.many <;> simp [h1]
theorem fitIn_drop {many : Int} {l : List Run} {j : Nat} (h : j < l.length) : fitIn many (l.drop j) = if many ≤ l[j].many then l[j].first else fitIn many (l.drop (j + 1)) := by
  rw [List.drop_eq_getElem_cons h, fitIn_cons]

set_option maxHeartbeats 2000000 in
set_option maxRecDepth 100000 in
theorem FitOf_any (A : Option Addr) (c : Nat) (l : List Plc) (many : Int) (w : World) (h : PlsOk w A l) (hr : regErr l = 0) :
    Calls Tryz.prog 106 #[.slice A l.length c, .int .i64 many] w fun e w' => e = .returned (.int .i64 (fitIn many (runsOf l))) ∧ Below w.heap.size w w' := by
  have HS := Lib.hid (show (runsOf l).length ≤ 9 by have := runsFrom_length l 0; have := (reg_row hr).1; unfold runsOf; omega)
  have c1 := Lib.hid (FreeOf_any A c l w h hr)
  obtain ⟨R, hR⟩ : ∃ R, R = runsOf l := ⟨_, rfl⟩
  rw [← hR] at c1 HS ⊢
  clear h hr hR
  go_enter Tryz.func106, Tryz.ntmps106
  go_wp2_with (go_at_call 180; refine (c1.out).mono ?_; rintro e w2 ⟨⟨A', c', rfl, hrow⟩, hb2⟩; have HR := Lib.hid hrow; clear hrow)
  go_loopw [6] (fun i wr => ∃ (j : Nat), j ≤ R.length ∧ i = .int .i64 j ∧ fitIn many (R.drop j) = fitIn many R ∧ Below w2.heap.size w2 wr) (fun i _ => R.length - (intOf i).toNat)
  case atStart => exact ⟨0, by omega, rfl, rfl, Below.refl _ _⟩
  case round =>
    obtain ⟨j, hj, rfl, hE, hb⟩ := hrel
    have HE := Lib.hid hE
    have HB := Lib.hid hb
    have hl := HS.out
    clear hE
    by_cases hlt : j < R.length
    · have hlt' : (j : Int) < R.length := by omega
      obtain ⟨ad, rfl, hab, k0, k1⟩ := run_at HR.out hb j hlt
      have hd := fitIn_drop (many := many) hlt
      obtain ⟨f, hf⟩ : ∃ f, f = R[j].first := ⟨_, rfl⟩
      obtain ⟨m, hm⟩ : ∃ m, m = R[j].many := ⟨_, rfl⟩
      rw [← hf] at k0 hd
      rw [← hm] at k1 hd
      clear hf hm hb
      by_cases t0 : many ≤ m
      · rw [if_pos t0] at hd
        have e1 := Lib.hid (hd.symm.trans HE.out)
        clear hd
        go_wp2_with fail
        go_ret
        exact ⟨ret_int e1.out, hb2.trans (HB.out.mono hb2.size)⟩
      · rw [if_neg t0] at hd
        have t0' : decide (many ≤ m) = false := by simp; omega
        have e1 := Lib.hid (hd.symm.trans HE.out)
        clear hd t0
        go_wp2_with fail
        go_roundw
        case rel => exact ⟨j + 1, by omega, by go_num, e1.out, HB.out⟩
        case measure => (simp [intOf]; try omega)
    · have e1 := Lib.hid (show fitIn many R = -1 by rw [← HE.out, List.drop_eq_nil_of_le (by omega)]; rfl)
      go_wp2_with fail
      go_ret
      exact ⟨ret_int e1.out.symm, hb2.trans (HB.out.mono hb2.size)⟩

end Go.Proofs.YtjiedaialianmaaGreat
end

section

open Go
namespace Go.Proofs.YtjiedaialianmaaGreat
open Gs (Tx)

/-- does a patch touch byte i? -/
def touches (i : Nat) (p : Pat) : Bool := decide (p.at_ ≤ i) && decide ((i : Int) < p.at_ + widthOf p.kind)
end Go.Proofs.YtjiedaialianmaaGreat
end

section

open Go
namespace Go.Proofs.YtjiedaialianmaaGreat
open Gs (Tx)

/-- all steps; how many there are -/
def packL : Int → List Plc → List Plc × Nat
  | _, [] => ([], 0)
  | a, x :: l => (⟨x.m, a⟩ :: (packL (a + manyOf x.m) l).1, (packL (a + manyOf x.m) l).2 + if x.first = a then 0 else 1)


end Go.Proofs.YtjiedaialianmaaGreat
end
