import Derived.Test.YtjnfemcfohflnaaModsW
/- Who is meant (chapter D): resolve.Place, export, Address, and the document's PlaceOf, exportAt, AddressOf. -/
namespace Go.Proofs.Ytjnfemcfohflnaa
open Go.RowKit

set_option maxHeartbeats 2000000 in
set_option maxRecDepth 100000 in
theorem IdxPlc_any (A : Option Addr) (c : Nat) (l : List Plc) (g : Nat) (lb : Array Value) (q : Plc → Bool) (w : World) (eg : ∀ args w, (callFunc g args).run Try.prog w = .ok (.enter g args) w) (h : Row Plc.cells 8 w A l) (hl : l.length ≤ big)
    (hq : ∀ x ∈ l, ∀ W, Below w.heap.size w W → Calls Try.prog g (#[x.v] ++ lb) W fun e w' => e = .returned (.bool (q x)) ∧ Below W.heap.size W w') :
    Calls Try.prog 27 #[.slice A l.length c, .func (.func g) #[] lb] w fun e w' => e = .returned (.int .i64 (idxOf q l)) ∧ Below w.heap.size w w' := by
  unfold big at hl
  have HP := Lib.hid h
  have HQ := Lib.hid hq
  clear h hq
  go_enter Try.func27, Try.ntmps27
  go_wp2_with fail
  go_loopw [8] (fun i wr => ∃ j : Nat, j ≤ l.length ∧ i = .int .i64 j ∧ (∀ k (hk : k < l.length), k < j → q l[k] = false) ∧ Below w.heap.size w wr) (fun i _ => l.length - (intOf i).toNat)
  case atStart => exact ⟨0, by omega, rfl, by omega, Below.refl _ _⟩
  case round =>
    obtain ⟨j, hj, rfl, hN, hb⟩ := hrel
    have HN := Lib.hid hN
    have HB := Lib.hid hb
    clear hN
    by_cases hlt : j < l.length
    · have hlt' : (j : Int) < l.length := by omega
      obtain ⟨ad, rfl, hab, h0, h1, h2, h3, h4, h5, h6, h7⟩ := plc_at HP.out hb j hlt
      have hwz := hb.size
      have c2 := Lib.hid (show Calls Try.prog g (#[(l[j]'hlt).v] ++ lb) wr fun e w' => e = .returned (.bool (q (l[j]'hlt))) ∧ Below wr.heap.size wr w' from HQ.out (l[j]'hlt) (List.getElem_mem _) wr HB.out)
      obtain ⟨bq, hbq⟩ : ∃ bq, bq = q (l[j]'hlt) := ⟨_, rfl⟩
      rw [← hbq] at c2
      have HBQ := Lib.hid hbq
      clear hbq hb
      cases bq
      · go_wp2_with (go_at_fn g; refine (c2.out).mono ?_; rintro e w3 ⟨rfl, hb3⟩)
        go_roundw
        case rel => exact ⟨j + 1, by omega, by go_num, fun k hk hkj => by rcases Nat.lt_succ_iff_lt_or_eq.1 hkj with h | rfl; exact HN.out k hk h; exact HBQ.out.symm, HB.out.trans (hb3.mono (by omega))⟩
        case measure => (simp [intOf]; try omega)
      · have e1 := Lib.hid (idxOf_some hlt HN.out HBQ.out.symm)
        go_wp2_with (go_at_fn g; refine (c2.out).mono ?_; rintro e w3 ⟨rfl, hb3⟩)
        go_ret
        exact ⟨ret_int e1.out.symm, HB.out.trans (hb3.mono (by omega))⟩
    · have e1 := Lib.hid (idxOf_none (q := q) (l := l) (fun k hk => HN.out k hk (by omega)))
      go_wp2_with fail
      go_ret
      exact ⟨ret_int e1.out.symm, HB.out⟩

set_option maxHeartbeats 2000000 in
set_option maxRecDepth 100000 in
theorem IdxExp_any (A : Option Addr) (c : Nat) (l : List Exp) (g : Nat) (lb : Array Value) (q : Exp → Bool) (w : World) (eg : ∀ args w, (callFunc g args).run Try.prog w = .ok (.enter g args) w) (h : Row Exp.cells 2 w A l) (hl : l.length ≤ big)
    (hq : ∀ x ∈ l, ∀ W, Below w.heap.size w W → Calls Try.prog g (#[x.v] ++ lb) W fun e w' => e = .returned (.bool (q x)) ∧ Below W.heap.size W w') :
    Calls Try.prog 63 #[.slice A l.length c, .func (.func g) #[] lb] w fun e w' => e = .returned (.int .i64 (idxOf q l)) ∧ Below w.heap.size w w' := by
  unfold big at hl
  have HP := Lib.hid h
  have HQ := Lib.hid hq
  clear h hq
  go_enter Try.func63, Try.ntmps63
  go_wp2_with fail
  go_loopw [8] (fun i wr => ∃ j : Nat, j ≤ l.length ∧ i = .int .i64 j ∧ (∀ k (hk : k < l.length), k < j → q l[k] = false) ∧ Below w.heap.size w wr) (fun i _ => l.length - (intOf i).toNat)
  case atStart => exact ⟨0, by omega, rfl, by omega, Below.refl _ _⟩
  case round =>
    obtain ⟨j, hj, rfl, hN, hb⟩ := hrel
    have HN := Lib.hid hN
    have HB := Lib.hid hb
    clear hN
    by_cases hlt : j < l.length
    · have hlt' : (j : Int) < l.length := by omega
      obtain ⟨ad, rfl, hab, h0, h1⟩ := exp_at HP.out hb j hlt
      have hwz := hb.size
      have c2 := Lib.hid (show Calls Try.prog g (#[(l[j]'hlt).v] ++ lb) wr fun e w' => e = .returned (.bool (q (l[j]'hlt))) ∧ Below wr.heap.size wr w' from HQ.out (l[j]'hlt) (List.getElem_mem _) wr HB.out)
      obtain ⟨bq, hbq⟩ : ∃ bq, bq = q (l[j]'hlt) := ⟨_, rfl⟩
      rw [← hbq] at c2
      have HBQ := Lib.hid hbq
      clear hbq hb
      cases bq
      · go_wp2_with (go_at_fn g; refine (c2.out).mono ?_; rintro e w3 ⟨rfl, hb3⟩)
        go_roundw
        case rel => exact ⟨j + 1, by omega, by go_num, fun k hk hkj => by rcases Nat.lt_succ_iff_lt_or_eq.1 hkj with h | rfl; exact HN.out k hk h; exact HBQ.out.symm, HB.out.trans (hb3.mono (by omega))⟩
        case measure => (simp [intOf]; try omega)
      · have e1 := Lib.hid (idxOf_some hlt HN.out HBQ.out.symm)
        go_wp2_with (go_at_fn g; refine (c2.out).mono ?_; rintro e w3 ⟨rfl, hb3⟩)
        go_ret
        exact ⟨ret_int e1.out.symm, HB.out.trans (hb3.mono (by omega))⟩
    · have e1 := Lib.hid (idxOf_none (q := q) (l := l) (fun k hk => HN.out k hk (by omega)))
      go_wp2_with fail
      go_ret
      exact ⟨ret_int e1.out.symm, HB.out⟩

set_option maxHeartbeats 1000000 in
set_option maxRecDepth 100000 in
theorem named_any (x : Plc) (nm : ByteArray) (B : Nat) (w : World) (hB : B < w.heap.size) (h : w.cell? ⟨B, 0, none⟩ = some (.string nm)) :
    Calls Try.prog 28 (#[x.v] ++ #[.pointer (some ⟨B, 0, none⟩)]) w fun e w' => e = .returned (.bool (named nm x)) ∧ Below w.heap.size w w' := by
  have hd : named nm x = (x.m.name.toList == nm.toList) := by
    unfold named
    by_cases e : x.m.name = nm
    · rw [str_eq e]; simp [e]
    · rw [str_ne e]; simp [e]
  rw [hd]
  go_enter Try.func28, Try.ntmps28
  go_wp2_with fail
  go_ret
  exact ⟨rfl, (Below.refl _ _).alloc (Nat.le_refl _) _⟩
set_option maxHeartbeats 1000000 in
set_option maxRecDepth 100000 in
theorem called_any (x : Exp) (nm : ByteArray) (B : Nat) (w : World) (hB : B < w.heap.size) (h : w.cell? ⟨B, 0, none⟩ = some (.string nm)) :
    Calls Try.prog 64 (#[x.v] ++ #[.pointer (some ⟨B, 0, none⟩)]) w fun e w' => e = .returned (.bool (called nm x)) ∧ Below w.heap.size w w' := by
  have hd : called nm x = (x.name.toList == nm.toList) := by
    unfold called
    by_cases e : x.name = nm
    · rw [str_eq e]; simp [e]
    · rw [str_ne e]; simp [e]
  rw [hd]
  go_enter Try.func64, Try.ntmps64
  go_wp2_with fail
  go_ret
  exact ⟨rfl, (Below.refl _ _).alloc (Nat.le_refl _) _⟩

set_option maxHeartbeats 1000000 in
set_option maxRecDepth 100000 in
theorem Place_any (A : Option Addr) (c : Nat) (l : List Plc) (nm : ByteArray) (w : World) (h : Row Plc.cells 8 w A l) (hl : l.length ≤ big) :
    Calls Try.prog 16 #[.slice A l.length c, .string nm] w fun e w' => e = .returned (.int .i64 (idxOf (named nm) l)) ∧ Below w.heap.size w w' := by
  obtain ⟨w0, hw0⟩ : ∃ w0, w0 = w.alloc (.cells #[.string nm] 9) := ⟨_, rfl⟩
  have hc0 : w0.cell? ⟨w.heap.size, 0, none⟩ = some (.string nm) := by rw [hw0, World.cell?_alloc_new]; rfl
  have hz0 : w0.heap.size = w.heap.size + 1 := by rw [hw0]; simp
  have hb0 : Below w.heap.size w w0 := hw0 ▸ (Below.refl _ _).alloc (Nat.le_refl _) _
  have c1 := Lib.hid (IdxPlc_any A c l 28 #[.pointer (some ⟨w.heap.size, 0, none⟩)] (named nm) w0 (enters_of Try.func28 (by kernel_rfl) rfl) (h.below hb0) hl
    (fun x _ W hb => named_any x nm w.heap.size W (by have := hb.size; omega) ((hb.cell (by simp; omega)).trans hc0)))
  have H0 := Lib.hid hb0
  have hw0' := hw0.symm
  clear hw0 hb0
  go_enter Try.func16, Try.ntmps16
  go_wp2_with (first | (go_at_call 27; (with_reducible refine (c1.out).mono ?_); rintro e w1 ⟨rfl, hb1⟩))
  go_ret
  exact ⟨rfl, H0.out.trans (hb1.mono (by omega))⟩

def expOk (l : List Exp) (nm : ByteArray) : Bool := decide ((expAt l nm).2 = 0)
theorem expAt_some {l : List Exp} {nm : ByteArray} {j : Nat} (h : j < l.length) (e : l.find? (called nm) = some l[j]) : expAt l nm = (l[j].at_, 0) := by unfold expAt; rw [e]
theorem expAt_none {l : List Exp} {nm : ByteArray} (e : l.find? (called nm) = none) : expAt l nm = (0, 5) := by unfold expAt; rw [e]
theorem expAt_cases (l : List Exp) (nm : ByteArray) : (expAt l nm).2 = 0 ∨ ((expAt l nm).1 = 0 ∧ (expAt l nm).2 = 5) := by
  unfold expAt; split <;> simp

set_option maxHeartbeats 1000000 in
set_option maxRecDepth 100000 in
theorem export_any (A : Option Addr) (c : Nat) (l : List Exp) (nm : ByteArray) (w : World) (h : ExpsOk w A l) :
    Calls Try.prog 47 #[.slice A l.length c, .string nm] w fun e w' => e = .returned (.tuple #[.int .i64 (expAt l nm).1, .bool (expOk l nm)]) ∧ Below w.heap.size w w' := by
  obtain ⟨h, hl, _⟩ := h
  obtain ⟨w0, hw0⟩ : ∃ w0, w0 = w.alloc (.cells #[.string nm] 9) := ⟨_, rfl⟩
  have hc0 : w0.cell? ⟨w.heap.size, 0, none⟩ = some (.string nm) := by rw [hw0, World.cell?_alloc_new]; rfl
  have hz0 : w0.heap.size = w.heap.size + 1 := by rw [hw0]; simp
  have hb0 : Below w.heap.size w w0 := hw0 ▸ (Below.refl _ _).alloc (Nat.le_refl _) _
  have c1 := Lib.hid (IdxExp_any A c l 64 #[.pointer (some ⟨w.heap.size, 0, none⟩)] (called nm) w0 (enters_of Try.func64 (by kernel_rfl) rfl) (h.below hb0) hl
    (fun x _ W hb => called_any x nm w.heap.size W (by have := hb.size; omega) ((hb.cell (by simp; omega)).trans hc0)))
  have H0 := Lib.hid hb0
  have HR := Lib.hid h
  have hw0' := hw0.symm
  unfold big at hl
  clear hw0 hb0 h
  rcases find_cases (called nm) l with ⟨e1, e2⟩ | ⟨j, hj, e1, e2⟩
  · have ev := Lib.hid (expAt_none e2)
    rw [e1] at c1
    clear e1 e2
    go_enter Try.func47, Try.ntmps47
    go_wp2_with (first | (go_at_call 63; (with_reducible refine (c1.out).mono ?_); rintro e w1 ⟨rfl, hb1⟩))
    go_ret2
    exact ⟨by unfold expOk; rw [ev.out]; rfl, H0.out.trans (hb1.mono (by omega))⟩
  · have ev := Lib.hid (expAt_some hj e2)
    rw [e1] at c1
    have hj' : (j : Int) < l.length := by omega
    have HK := Lib.hid (fun W (hbW : Below w.heap.size w W) => exp_at HR.out hbW j hj)
    obtain ⟨ad, rfl, _⟩ := exp_at HR.out (Below.refl _ _) j hj
    clear e1 e2
    go_enter Try.func47, Try.ntmps47
    go_wp2_with (go_at_call 63; refine (c1.out).mono ?_; rintro e w1 ⟨rfl, hb1⟩; obtain ⟨_, ead, _, k0, k1⟩ := HK.out _ (H0.out.trans (hb1.mono (by omega))); obtain rfl := Option.some.inj ead)
    go_ret2
    exact ⟨by unfold expOk; rw [ev.out]; rfl, H0.out.trans (hb1.mono (by omega))⟩

end Go.Proofs.Ytjnfemcfohflnaa
