import Derived.Test.YtgkpbndeljnjcaaGreatFindW
import Derived.Test.YtgkpbndeljnjcaaGreatAddrW
/- Addresses as the document has them (chapter D): PlaceOf, exportAt, AddressOf. -/
namespace Go.Proofs.YtgkpbndeljnjcaaGreat
open Go.RowKit

/-- where an export is, as the document tells it -/
def expAtR (l : List Exp) (nm : ByteArray) : Int := if (expAt l nm).2 = 0 then (expAt l nm).1 else -1
theorem expAtR_hit {l : List Exp} {nm : ByteArray} {j : Nat} (h : j < l.length) (e : idxOf (called nm) l = j) : expAtR l nm = l[j].at_ := by
  rcases find_cases (called nm) l with ⟨e1, _⟩ | ⟨n, hn, e1, e2⟩
  · omega
  · obtain rfl : n = j := by omega
    unfold expAtR; rw [expAt_some hn e2]; rfl
theorem expAtR_miss {l : List Exp} {nm : ByteArray} (e : idxOf (called nm) l = -1) : expAtR l nm = -1 := by
  rcases find_cases (called nm) l with ⟨_, e2⟩ | ⟨n, hn, e1, _⟩
  · unfold expAtR; rw [expAt_none e2]; rfl
  · omega

set_option maxHeartbeats 2000000 in
set_option maxRecDepth 100000 in
theorem PlaceOf_any (A : Option Addr) (c : Nat) (l : List Plc) (nm : ByteArray) (w : World) (h : Row Plc.cells 8 w A l) (hl : l.length ≤ big) :
    Calls Tryz.prog 7 #[.slice A l.length c, .string nm] w fun e w' => e = .returned (.int .i64 (idxOf (named nm) l)) ∧ Below w.heap.size w w' := by
  unfold big at hl
  have HP := Lib.hid h
  clear h
  obtain ⟨R, hR⟩ : ∃ R, R = idxOf (named nm) l := ⟨_, rfl⟩
  rw [← hR]
  have HR := Lib.hid hR
  clear hR
  go_enter Tryz.func7, Tryz.ntmps7
  go_wp2_with fail
  go_loopw [5] (fun i wr => ∃ j : Nat, j ≤ l.length ∧ i = .int .i64 j ∧ (∀ k (hk : k < l.length), k < j → named nm l[k] = false) ∧ Below w.heap.size w wr) (fun i _ => l.length - (intOf i).toNat)
  case atStart => exact ⟨0, by omega, rfl, by omega, Below.refl _ _⟩
  case round =>
    obtain ⟨j, hj, rfl, hN, hb⟩ := hrel
    have HN := Lib.hid hN
    have HB := Lib.hid hb
    clear hN
    by_cases hlt : j < l.length
    · have hlt' : (j : Int) < l.length := by omega
      obtain ⟨ad, rfl, hab, h0, h1, h2, h3, h4, h5, h6, h7⟩ := plc_at HP.out hb j hlt
      clear hb
      by_cases he : l[j].m.name = nm
      · have e1 := Lib.hid (idxOf_some hlt HN.out (show named nm l[j] = true by simp [named, he]))
        have he' := str_eq he
        have HEE := Lib.hid he
        clear he
        have hrr := Lib.hid (HR.out.trans e1.out)
        go_wp2_with fail
        go_ret
        exact ⟨ret_int hrr.out.symm, HB.out⟩
      · have he' := str_ne he
        have HEE := Lib.hid (show named nm l[j] = false by simp [named, he])
        clear he
        go_wp2_with fail
        go_roundw
        case rel => exact ⟨j + 1, by omega, by go_num, fun k hk hkj => by rcases Nat.lt_succ_iff_lt_or_eq.1 hkj with h | rfl; exact HN.out k hk h; exact HEE.out, HB.out⟩
        case measure => (simp [intOf]; try omega)
    · have e1 := Lib.hid (idxOf_none (q := named nm) (l := l) (fun k hk => HN.out k hk (by omega)))
      have hrr := Lib.hid (HR.out.trans e1.out)
      go_wp2_with fail
      go_ret
      exact ⟨ret_int hrr.out.symm, HB.out⟩

set_option maxHeartbeats 2000000 in
set_option maxRecDepth 100000 in
theorem exportAt_any (A : Option Addr) (c : Nat) (l : List Exp) (nm : ByteArray) (w : World) (h : Row Exp.cells 2 w A l) (hl : l.length ≤ big) :
    Calls Tryz.prog 61 #[.slice A l.length c, .string nm] w fun e w' => e = .returned (.int .i64 (expAtR l nm)) ∧ Below w.heap.size w w' := by
  unfold big at hl
  have HP := Lib.hid h
  clear h
  obtain ⟨R, hR⟩ : ∃ R, R = expAtR l nm := ⟨_, rfl⟩
  rw [← hR]
  have HR := Lib.hid hR
  clear hR
  go_enter Tryz.func61, Tryz.ntmps61
  go_wp2_with fail
  go_loopw [5] (fun i wr => ∃ j : Nat, j ≤ l.length ∧ i = .int .i64 j ∧ (∀ k (hk : k < l.length), k < j → called nm l[k] = false) ∧ Below w.heap.size w wr) (fun i _ => l.length - (intOf i).toNat)
  case atStart => exact ⟨0, by omega, rfl, by omega, Below.refl _ _⟩
  case round =>
    obtain ⟨j, hj, rfl, hN, hb⟩ := hrel
    have HN := Lib.hid hN
    have HB := Lib.hid hb
    clear hN
    by_cases hlt : j < l.length
    · have hlt' : (j : Int) < l.length := by omega
      obtain ⟨ad, rfl, hab, h0, h1⟩ := exp_at HP.out hb j hlt
      clear hb
      by_cases he : l[j].name = nm
      · have e1 := Lib.hid (idxOf_some hlt HN.out (show called nm l[j] = true by simp [called, he]))
        have he' := str_eq he
        have HEE := Lib.hid he
        clear he
        have hrr := Lib.hid (HR.out.trans (expAtR_hit hlt e1.out))
        go_wp2_with fail
        go_ret
        exact ⟨ret_int hrr.out.symm, HB.out⟩
      · have he' := str_ne he
        have HEE := Lib.hid (show called nm l[j] = false by simp [called, he])
        clear he
        go_wp2_with fail
        go_roundw
        case rel => exact ⟨j + 1, by omega, by go_num, fun k hk hkj => by rcases Nat.lt_succ_iff_lt_or_eq.1 hkj with h | rfl; exact HN.out k hk h; exact HEE.out, HB.out⟩
        case measure => (simp [intOf]; try omega)
    · have e1 := Lib.hid (idxOf_none (q := called nm) (l := l) (fun k hk => HN.out k hk (by omega)))
      have hrr := Lib.hid (HR.out.trans (expAtR_miss e1.out))
      go_wp2_with fail
      go_ret
      exact ⟨ret_int hrr.out.symm, HB.out⟩

set_option maxHeartbeats 4000000 in
set_option maxRecDepth 100000 in
theorem AddressOf_any (k : Krn) (A : Option Addr) (c : Nat) (l : List Plc) (i : Imp) (w : World) (hk : k.ok w) (h : PlsOk w A l) (hp : placedErr k l = 0) :
    Calls Tryz.prog 39 #[k.v, .slice A l.length c, i.v] w fun e w' => e = .returned (.tuple #[.int .i64 (addrOf k l i).1, .int .i64 (addrOf k l i).2]) ∧ Below w.heap.size w w' := by
  obtain ⟨wk, hwk⟩ : ∃ wk, wk = w.alloc (.cells #[.int .i64 k.major, .int .i64 k.minor, .slice k.eA k.ex.length k.eC] 24) := ⟨_, rfl⟩
  obtain ⟨g0, g1, g2, hzk, hbk⟩ := box3 hwk
  obtain ⟨w0, hw0⟩ : ∃ w0, w0 = wk.alloc (.cells #[.string i.mod, .string i.name, .int .i64 i.major, .int .i64 i.minor] 79) := ⟨_, rfl⟩
  obtain ⟨f0, f1, f2, f3, hz0, hb0⟩ := box4 hw0
  rw [hzk] at f0 f1 f2 f3 hz0 hb0
  have k0 := (hb0.cell (p := ⟨w.heap.size, 0, none⟩) (by simp)).trans g0
  have k1 := (hb0.cell (p := ⟨w.heap.size, 1, none⟩) (by simp)).trans g1
  have k2 := (hb0.cell (p := ⟨w.heap.size, 2, none⟩) (by simp)).trans g2
  have H0 := Lib.hid (show Below w.heap.size w w0 from hbk.trans (hb0.mono (by omega)))
  have HZ := Lib.hid hz0
  have hwk' := hwk.symm
  have hw0' := hw0.symm
  have kq := kernel_eq i.mod
  obtain ⟨R, hR⟩ : ∃ R, R = addrOf k l i := ⟨_, rfl⟩
  rw [← hR]
  have HL := h.len
  unfold big at HL
  have HP := Lib.hid h
  have HPE := Lib.hid hp
  have cK := Lib.hid (fun W (hb : Below w.heap.size w W) => exportAt_any k.eA k.eC k.ex i.name W (hk.below hb).ex.1 (hk.below hb).ex.2.1)
  clear hwk hw0 hbk hb0 hk h hp g0 g1 g2 hz0
  by_cases t0 : i.mod = kernelBytes
  · rw [addr_kernel t0] at hR
    rw [show decide (i.mod = kernelBytes) = true by simp [t0]] at kq
    clear t0
    by_cases t1 : k.major ≠ i.major
    · rw [if_pos (.inl t1)] at hR
      have t1' : (k.major != i.major) = true := by simp [t1]
      clear t1
      go_enter Tryz.func39, Tryz.ntmps39
      go_wp2_with fail
      go_ret2
      exact ⟨by rw [hR]; rfl, H0.out⟩
    have t1' : (k.major != i.major) = false := by simpa using t1
    by_cases t2 : k.minor < i.minor
    · rw [if_pos (.inr t2)] at hR
      clear t1
      go_enter Tryz.func39, Tryz.ntmps39
      go_wp2_with fail
      go_ret2
      exact ⟨by rw [hR]; rfl, H0.out⟩
    have t2' : decide (k.minor < i.minor) = false := by simpa using t2
    rw [if_neg (by simp only [not_or]; exact ⟨t1, t2⟩)] at hR
    clear t1 t2
    have hec := expAt_cases k.ex i.name
    have hr := expAt_rng (nm := i.name) (fun x hx => ((krn_ok (placed_ok HPE.out).1) x hx).2) (by omega : (0 : Int) < 4096)
    unfold expAtR at cK
    rw [← hR] at cK hec hr
    clear hR
    obtain ⟨r1, r2⟩ := R
    simp only at hec hr cK ⊢
    by_cases u : r2 = 0
    · obtain rfl := u
      rw [if_pos rfl] at cK
      have q1 : decide (r1 < 0) = false := by simp; omega
      go_enter Tryz.func39, Tryz.ntmps39
      go_wp2_with (first | (go_at_call 61; (with_reducible refine (cK.out _ H0.out).mono ?_); rintro e w1 ⟨rfl, hb1⟩))
      go_ret2
      exact ⟨rfl, H0.out.trans (hb1.mono H0.out.size)⟩
    · obtain ⟨rfl, rfl⟩ : r1 = 0 ∧ r2 = 5 := by omega
      rw [if_neg u] at cK
      go_enter Tryz.func39, Tryz.ntmps39
      go_wp2_with (first | (go_at_call 61; (with_reducible refine (cK.out _ H0.out).mono ?_); rintro e w1 ⟨rfl, hb1⟩))
      go_ret2
      exact ⟨rfl, H0.out.trans (hb1.mono H0.out.size)⟩
  · rw [show decide (i.mod = kernelBytes) = false by simp [t0]] at kq
    have hz0 := HZ.out
    have hz1 : w.heap.size + 1 < w0.heap.size := by omega
    have hz2 : w.heap.size < w0.heap.size := by omega
    have cP := Lib.hid (PlaceOf_any A c l i.mod w0 (HP.out.row.below H0.out) (by unfold big; omega))
    clear hz0
    rcases find_cases (named i.mod) l with ⟨e1, e2⟩ | ⟨n, hn, e1, e2⟩
    · rw [addr_none t0 e2] at hR
      rw [e1] at cP
      clear e1 e2 t0
      go_enter Tryz.func39, Tryz.ntmps39
      go_wp2_with (first | (go_at_call 7; (with_reducible refine (cP.out).mono ?_); rintro e w1 ⟨rfl, hb1⟩; obtain ⟨hc1, hf1⟩ := bcell hb1; have hz1 : w.heap.size < w1.heap.size := by have := hb1.size; (try simp at this); omega))
      go_ret2
      exact ⟨by rw [hR]; rfl, H0.out.trans (hb1.mono (by omega))⟩
    · rw [addr_some t0 e2] at hR
      rw [e1] at cP
      clear e1 e2 t0
      have hn' : (n : Int) < l.length := by omega
      have HK := Lib.hid (fun W (hbW : Below w.heap.size w W) => plc_at HP.out.row hbW n hn)
      obtain ⟨ad, rfl, hab, _⟩ := plc_at HP.out.row (Below.refl _ _) n hn
      have hmo := HP.out.each l[n] (List.getElem_mem _)
      obtain ⟨p1, p2, p3⟩ := plc_facts HPE.out (x := l[n]) (List.getElem_mem _)
      have cE := Lib.hid (fun W (hb : Below w.heap.size w W) => exportAt_any (l[n]'hn).m.eA (l[n]'hn).m.eC (l[n]'hn).m.ex i.name W (hmo.below hb).ex.1 (hmo.below hb).ex.2.1)
      have hr := expAt_rng (nm := i.name) (ex_rng p3) (by omega : (0 : Int) < 256)
      have hec := expAt_cases (l[n]'hn).m.ex i.name
      obtain ⟨V, hV⟩ : ∃ V, V = expAt (l[n]'hn).m.ex i.name := ⟨_, rfl⟩
      unfold expAtR at cE
      rw [← hV] at cE hec hr hR
      have q1 : wrap64 (64 * (l[n]'hn).first) = 64 * (l[n]'hn).first := IntWalk.wrap64_in _ (by omega)
      have q2 : wrap64 (4096 + 64 * (l[n]'hn).first) = 4096 + 64 * (l[n]'hn).first := IntWalk.wrap64_in _ (by omega)
      have q3 := Lib.hid (show wrap64 (4096 + 64 * (l[n]'hn).first + V.1) = 4096 + 64 * (l[n]'hn).first + V.1 by rw [IntWalk.wrap64_in _ (by omega)])
      have HBM := Lib.hid (show (ad.add (n * 8)).block < w.heap.size by rw [block_of_add]; exact hab)
      clear hV hmo p3
      by_cases t1 : l[n].m.major ≠ i.major ∨ l[n].m.minor < i.minor
      · rw [if_pos t1] at hR
        by_cases t2 : l[n].m.major = i.major
        · have t3 : l[n].m.minor < i.minor := by rcases t1 with h | h; exact absurd t2 h; exact h
          have t2' : (l[n].m.major != i.major) = false := by simp [t2]
          clear t1 t2
          go_enter Tryz.func39, Tryz.ntmps39
          go_wp2_with (go_at_call 7; refine (cP.out).mono ?_; rintro e w1 ⟨rfl, hb1⟩; obtain ⟨hc1, hf1⟩ := bcell hb1; obtain ⟨_, ead, _, m0, m1, m2, m3, m4, m5, m6, m7⟩ := HK.out _ (H0.out.trans (hb1.mono (by omega))); obtain rfl := Option.some.inj ead; have hwz := hb1.size; have hz3 : w.heap.size + 1 < w1.heap.size := (by omega); have hz4 : w.heap.size < w1.heap.size := (by omega); have hbm : (ad.add (n * 8)).block < w1.heap.size := Nat.lt_of_lt_of_le HBM.out (by omega))
          go_ret2
          exact ⟨by rw [hR]; rfl, (H0.out.trans (hb1.mono (by omega))).alloc (by omega) _⟩
        · have t2' : (l[n].m.major != i.major) = true := by simp [t2]
          clear t1 t2
          go_enter Tryz.func39, Tryz.ntmps39
          go_wp2_with (go_at_call 7; refine (cP.out).mono ?_; rintro e w1 ⟨rfl, hb1⟩; obtain ⟨hc1, hf1⟩ := bcell hb1; obtain ⟨_, ead, _, m0, m1, m2, m3, m4, m5, m6, m7⟩ := HK.out _ (H0.out.trans (hb1.mono (by omega))); obtain rfl := Option.some.inj ead; have hwz := hb1.size; have hz3 : w.heap.size + 1 < w1.heap.size := (by omega); have hz4 : w.heap.size < w1.heap.size := (by omega); have hbm : (ad.add (n * 8)).block < w1.heap.size := Nat.lt_of_lt_of_le HBM.out (by omega))
          go_ret2
          exact ⟨by rw [hR]; rfl, (H0.out.trans (hb1.mono (by omega))).alloc (by omega) _⟩
      · rw [if_neg t1] at hR
        have t2' : (l[n].m.major != i.major) = false := by simp; omega
        have t3' : decide (l[n].m.minor < i.minor) = false := by simp; omega
        clear t1
        obtain ⟨v1, v2⟩ := V
        simp only at hec hr cE hR q3
        by_cases u : v2 = 0
        · obtain rfl := u
          rw [if_neg (by simp)] at hR
          rw [if_pos rfl] at cE
          have q4 : decide (v1 < 0) = false := by simp; omega
          go_enter Tryz.func39, Tryz.ntmps39
          go_wp2_with (first | (go_at_call 7; refine (cP.out).mono ?_; rintro e w1 ⟨rfl, hb1⟩; obtain ⟨hc1, hf1⟩ := bcell hb1; obtain ⟨_, ead, _, m0, m1, m2, m3, m4, m5, m6, m7⟩ := HK.out _ (H0.out.trans (hb1.mono (by omega))); obtain rfl := Option.some.inj ead; have hwz := hb1.size; have hz3 : w.heap.size + 1 < w1.heap.size := (by omega); have hz4 : w.heap.size < w1.heap.size := (by omega); have hbm : (ad.add (n * 8)).block < w1.heap.size := Nat.lt_of_lt_of_le HBM.out (by omega)) | (go_at_call 61; refine (cE.out _ ((H0.out.trans (hb1.mono (by omega))).alloc (by omega) _)).mono ?_; rintro e w2 ⟨rfl, hb2⟩; obtain ⟨_, ead, _, m0, m1, m2, m3, m4, m5, m6, m7⟩ := HK.out _ (((H0.out.trans (hb1.mono (by omega))).alloc (by omega) _).trans (hb2.mono (by simp; omega))); obtain rfl := Option.some.inj ead))
          go_ret2
          exact ⟨(ret_ints (b := 4096 + 64 * (l[n]'hn).first + v1) (d := 0) (by first | exact q3.out | omega) rfl).trans (by rw [hR]), ((H0.out.trans (hb1.mono (by omega))).alloc (by omega) _).trans (hb2.mono (by simp; omega))⟩
        · obtain ⟨rfl, rfl⟩ : v1 = 0 ∧ v2 = 5 := by omega
          rw [if_pos (by simp)] at hR
          rw [if_neg u] at cE
          go_enter Tryz.func39, Tryz.ntmps39
          go_wp2_with (first | (go_at_call 7; refine (cP.out).mono ?_; rintro e w1 ⟨rfl, hb1⟩; obtain ⟨hc1, hf1⟩ := bcell hb1; obtain ⟨_, ead, _, m0, m1, m2, m3, m4, m5, m6, m7⟩ := HK.out _ (H0.out.trans (hb1.mono (by omega))); obtain rfl := Option.some.inj ead; have hwz := hb1.size; have hz3 : w.heap.size + 1 < w1.heap.size := (by omega); have hz4 : w.heap.size < w1.heap.size := (by omega); have hbm : (ad.add (n * 8)).block < w1.heap.size := Nat.lt_of_lt_of_le HBM.out (by omega)) | (go_at_call 61; refine (cE.out _ ((H0.out.trans (hb1.mono (by omega))).alloc (by omega) _)).mono ?_; rintro e w2 ⟨rfl, hb2⟩))
          go_ret2
          exact ⟨by rw [hR]; rfl, ((H0.out.trans (hb1.mono (by omega))).alloc (by omega) _).trans (hb2.mono (by simp; omega))⟩

end Go.Proofs.YtgkpbndeljnjcaaGreat
