import Derived.Test.YtjnfemcfohflnaaRAddrW
import Derived.Test.YtjnfemcfohflnaaAppAny
import Derived.Maps.AppendAt
import Derived.OwnWalk
import Derived.RangeFuncBox
/- Addresses of all imports of a module (chapter D): resolve.Addresses, and the document's AddressesOf; rows of ints of the call's own. -/
namespace Go.Proofs.Ytjnfemcfohflnaa
open Go.RowKit

theorem Try.infoInt : (Try.prog.info? 3).map (fun i => (i.zero, i.size, i.bytes)) = some (some (.int .i64 0), 1, 8) := by kernel_rfl

/-- a slice of ints that lies in blocks of the call's own, from block base on -/
def Ints (w : World) (base : Nat) (v : Value) (ns : List Int) : Prop := w.ownsRow base 3 1 v ns.length (ns.map iv)
theorem own_below {w w' : World} {base size n B : Nat} {e : TypeId} {v : Value} {xs : List Value} (h : w.ownsRow base e size v n xs) (hb : Below B w w') (hB : w.heap.size ≤ B) : w'.ownsRow base e size v n xs := by
  refine ⟨h.1, ?_⟩
  rcases h.2 with h0 | ⟨g, cap, cur, e1, e2, e3, e4⟩
  · exact .inl h0
  · refine .inr ⟨g, cap, cur, e1, e2, ?_, e4⟩
    have : g < w.heap.size := by
      rcases Nat.lt_or_ge g w.heap.size with hlt | hge
      · exact hlt
      · rw [Array.getElem?_eq_none hge] at e3; cases e3
    rw [hb.block g (by omega)]; exact e3
abbrev IntRow (w : World) (A : Option Addr) (ns : List Int) : Prop := Row (fun n => [iv n]) 1 w A ns
theorem map_flat (ns : List Int) : ns.map iv = ns.flatMap (fun n => [iv n]) := by induction ns with
  | nil => rfl
  | cons x l ih => simp [List.flatMap_cons, ← ih]
theorem Ints.row {w : World} {base : Nat} {v : Value} {ns : List Int} (h : Ints w base v ns) : ∃ (A : Option Addr) (c : Nat), v = .slice A ns.length c ∧ IntRow w A ns := by
  obtain ⟨A, c, rfl⟩ := own_slice h
  refine ⟨A, c, rfl, ?_⟩
  have := Reads.of_own h
  rwa [map_flat] at this
theorem Ints.nil (w : World) (base : Nat) : Ints w base (.slice none 0 0) [] := World.ownsRow_nil _ _ _ _
theorem append_int (W : World) {ops : Array Oper} {rest : List Oper} {o : Oper} {a : Act} {Q : Exit → Act → World → Prop} (hgd : o.guard = none) (s x : Operand)
    (ho : o.op = .call { callee := .builtin .append, args := #[s, x], argTypes := #[61, 61] }) (base : Nat) (v : Value) (ns : List Int) (n : Int) (hs : a.eval s = v)
    (hx : a.eval x = .slice (some ⟨W.heap.size, 0, none⟩) 1 1) (hown : Ints W base v ns) (hl : ns.length ≤ 1000000) (hbase : base ≤ W.heap.size)
    (h : ∀ v' w', Ints w' base v' (ns ++ [n]) → Below base W w' → wpList Try.prog ops Q rest (a.put o.dst v') w') : wpList Try.prog ops Q (o :: rest) a (W.alloc (.cells #[.int .i64 n] 3)) := by
  obtain ⟨i0, hi, hz0, hz1, hz2⟩ := info_parts Try.infoInt
  refine wpList_append_own_at (W.alloc (.cells #[.int .i64 n] 3)) hgd s x 61 ho base 3 i0 (.int .i64 0) 1 8 Try.underlying61 hi hz0 hz1 hz2 rfl (by decide) v ns.length (ns.map iv) hs (hown.alloc _) ⟨W.heap.size, 0, none⟩ 1 1 [.int .i64 n] hx rfl
    (cell_one_new _ _ _) (by simp [Value.oneCell']) (by simp only [maxLen]; omega) (by omega) (by simp; omega) ?_
  intro v' w1 hown' hgrow _ _
  refine h v' w1 ?_ (((Below.refl base W).alloc hbase _).grown hgrow (by simp; omega) (own_base hown))
  unfold Ints
  simpa using hown'

set_option maxHeartbeats 4000000 in
set_option maxRecDepth 100000 in
theorem Addresses_any (k : Krn) (A : Option Addr) (c : Nat) (l : List Plc) (nm tx : ByteArray) (mj mn : Int) (ex : List Exp) (im : List Imp) (pa : List Pat) (eA iA pA : Option Addr) (eC iC pC : Nat) (w : World) (hk : k.ok w) (h : PlsOk w A l) (him : ImpsOk w iA im) (hi6 : im.length ≤ 6) (hp : placedErr k l = 0) :
    Calls Try.prog 20 #[k.v, .slice A l.length c, .agg #[.string nm, .int .i64 mj, .int .i64 mn, .string tx, .slice eA ex.length eC, .slice iA im.length iC, .slice pA pa.length pC]] w fun e w' =>
      (∃ (A' : Option Addr) (c' : Nat), e = .returned (.tuple #[.slice A' (addrsOf k l im).1.length c', .int .i64 (addrsOf k l im).2]) ∧ IntRow w' A' (addrsOf k l im).1) ∧ Below w.heap.size w w' := by
  obtain ⟨wk, hwk⟩ : ∃ wk, wk = w.alloc (.cells #[.int .i64 k.major, .int .i64 k.minor, .slice k.eA k.ex.length k.eC] 24) := ⟨_, rfl⟩
  obtain ⟨g0, g1, g2, hzk, hbk⟩ := box3 hwk
  obtain ⟨w0, hw0⟩ : ∃ w0, w0 = wk.alloc (.cells #[.string nm, .int .i64 mj, .int .i64 mn, .string tx, .slice eA ex.length eC, .slice iA im.length iC, .slice pA pa.length pC] 34) := ⟨_, rfl⟩
  obtain ⟨_, _, _, _, _, f5, _, hz0, hb0⟩ := box7 hw0
  rw [hzk] at f5 hz0 hb0
  have k0 := (hb0.cell (p := ⟨w.heap.size, 0, none⟩) (by simp)).trans g0
  have k1 := (hb0.cell (p := ⟨w.heap.size, 1, none⟩) (by simp)).trans g1
  have k2 := (hb0.cell (p := ⟨w.heap.size, 2, none⟩) (by simp)).trans g2
  have H0 := Lib.hid (show Below w.heap.size w w0 from hbk.trans (hb0.mono (by omega)))
  have HZ := Lib.hid hz0
  have hwk' := hwk.symm
  have hw0' := hw0.symm
  have HIM := Lib.hid him
  obtain ⟨R, hR⟩ : ∃ R, R = addrsOf k l im := ⟨_, rfl⟩
  rw [← hR]
  have HR := Lib.hid hR
  clear hwk hw0 hbk hb0 g0 g1 g2 him hR hz0
  have cA := Lib.hid (fun W (hb : Below w.heap.size w W) i => Address_any k A c l i W (hk.below hb) (h.below hb) hp)
  clear hk h hp
  go_enter Try.func20, Try.ntmps20
  go_wp2_with fail
  go_loopw [8, 16] (fun v i wr => ∃ (j : Nat) (pre : List Int), j ≤ im.length ∧ i = .int .i64 j ∧ pre.length = j ∧ Ints wr w0.heap.size v pre ∧ glue pre (addrsOf k l (im.drop j)) = R ∧ Below w0.heap.size w0 wr) (fun _ i _ => im.length - (intOf i).toNat)
  case atStart => exact ⟨0, [], by omega, rfl, rfl, Ints.nil _ _, by rw [HR.out]; exact glue_nil, Below.refl _ _⟩
  case round =>
    obtain ⟨j, pre, hj, rfl, hpl, hin, hG, hb⟩ := hrel
    have HG := Lib.hid hG
    have HB := Lib.hid hb
    have HI := Lib.hid hin
    have HPL := Lib.hid hpl
    clear hG hin
    obtain ⟨vA, vc, hv, hrow⟩ := HI.out.row
    have HV := Lib.hid hv
    clear hv
    have hwz := hb.size
    have hz0 := HZ.out
    have hz1 : w.heap.size + 1 < wr.heap.size := by omega
    have hz2 : w.heap.size < wr.heap.size := by omega
    have r0 := (hb.cell (p := ⟨w.heap.size, 0, none⟩) (by simp; omega)).trans k0
    have r1 := (hb.cell (p := ⟨w.heap.size, 1, none⟩) (by simp; omega)).trans k1
    have r2 := (hb.cell (p := ⟨w.heap.size, 2, none⟩) (by simp; omega)).trans k2
    have r5 := (hb.cell (p := ⟨w.heap.size + 1, 5, none⟩) (by simp; omega)).trans f5
    have HX := Lib.hid (show Below w.heap.size w wr from H0.out.trans (hb.mono H0.out.size))
    clear hz0
    by_cases hlt : j < im.length
    · have hlt' : (j : Int) < im.length := by omega
      obtain ⟨ad, rfl, hab, h0, h1, h2, h3⟩ := imp_at HIM.out.1 HX.out j hlt
      have cJ := Lib.hid (fun W hb => cA.out W hb im[j])
      obtain ⟨V, hV⟩ : ∃ V, V = addrOf k l im[j] := ⟨_, rfl⟩
      have e1 := Lib.hid (fun he => (glue_err (k := k) (l := l) (pre := pre) hlt he).symm.trans HG.out)
      have e2 := Lib.hid (fun he => (glue_ok (k := k) (l := l) (pre := pre) hlt he).trans HG.out)
      rw [← hV] at e1 e2
      simp only [← hV] at cJ
      clear hV hb
      obtain ⟨v1, v2⟩ := V
      simp only at e1 e2 cJ
      have HXA := Lib.hid (HX.out.alloc (by omega) (.cells #[.string im[j].mod, .string im[j].name, iv im[j].major, iv im[j].minor] 83))
      by_cases u : v2 = 0
      · obtain rfl := u
        have e3 := Lib.hid (e2.out rfl)
        go_wp2_with (first | (go_at_call 35; refine (cJ.out _ HXA.out).mono ?_; rintro e w2 ⟨rfl, hb2⟩; have hz3 := hb2.size) | (at_builtin; refine append_int _ rfl _ _ rfl w0.heap.size _ pre v1 rfl rfl (own_below (HI.out.alloc _) hb2 (Nat.le_refl _)) (by rw [HPL.out]; omega) (by simp at hz3; omega) ?_; intro v' w4 hin4 hb4))
        go_roundw
        case rel => exact ⟨j + 1, pre ++ [v1], by omega, by go_num, by simp [HPL.out], hin4, e3.out, (((HB.out.alloc (by omega) _).trans (hb2.mono (by simp; omega))).trans hb4)⟩
        case measure => (simp [intOf]; try omega)
      · have u' : (v2 != 0) = true := by simp [u]
        have e3 := Lib.hid (e1.out u)
        clear u
        go_wp2_with (go_at_call 35; refine (cJ.out _ HXA.out).mono ?_; rintro e w2 ⟨rfl, hb2⟩; have hz3 := hb2.size)
        go_ret2
        exact ⟨⟨none, 0, by rw [← e3.out]; rfl, by rw [← e3.out]; exact Row.nil⟩, HXA.out.trans (hb2.mono (by simp; omega))⟩
    · have e1 := Lib.hid ((glue_end (k := k) (l := l) (pre := pre) hlt).symm.trans HG.out)
      go_wp2_with fail
      go_ret2
      exact ⟨⟨vA, vc, by rw [← e1.out]; rw [HV.out]; rfl, by rw [← e1.out]; exact hrow⟩, HX.out⟩

end Go.Proofs.Ytjnfemcfohflnaa
