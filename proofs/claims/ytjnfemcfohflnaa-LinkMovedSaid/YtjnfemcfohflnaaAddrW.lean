import Derived.Test.YtjnfemcfohflnaaFindW
/- Addresses (chapter D): resolve.Address, and the document's AddressOf. -/
namespace Go.Proofs.Ytjnfemcfohflnaa
open Go.RowKit

theorem addr_kernel {k : Krn} {l : List Plc} {i : Imp} (h : i.mod = kernelBytes) : addrOf k l i = if k.major ≠ i.major ∨ k.minor < i.minor then (0, 4) else expAt k.ex i.name := by unfold addrOf; rw [if_pos h]
theorem addr_none {k : Krn} {l : List Plc} {i : Imp} (h : i.mod ≠ kernelBytes) (e : l.find? (named i.mod) = none) : addrOf k l i = (0, 5) := by unfold addrOf; rw [if_neg h, e]
theorem addr_some {k : Krn} {l : List Plc} {i : Imp} (h : i.mod ≠ kernelBytes) {x : Plc} (e : l.find? (named i.mod) = some x) :
    addrOf k l i = if x.m.major ≠ i.major ∨ x.m.minor < i.minor then (0, 4) else if (expAt x.m.ex i.name).2 ≠ 0 then (0, 5) else (4096 + 64 * x.first + (expAt x.m.ex i.name).1, 0) := by unfold addrOf; rw [if_neg h, e]
theorem expAt_rng {l : List Exp} {nm : ByteArray} {most : Int} (h : ∀ x ∈ l, 0 ≤ x.at_ ∧ x.at_ < most) (h0 : 0 < most) : 0 ≤ (expAt l nm).1 ∧ (expAt l nm).1 < most := by
  rcases find_cases (called nm) l with ⟨_, e2⟩ | ⟨j, hj, _, e2⟩
  · rw [expAt_none e2]; exact ⟨by simp, h0⟩
  · rw [expAt_some hj e2]; exact h _ (List.getElem_mem _)
theorem plc_facts {k : Krn} {l : List Plc} (h : placedErr k l = 0) {x : Plc} (hx : x ∈ l) : 0 ≤ x.first ∧ x.first ≤ 15 ∧ modErr x.m = 0 := by
  have h1 := (modsAll_ok (placed_ok h).2).2 x hx
  have := h1.2
  unfold resQ at this
  simp only [Bool.and_eq_true, decide_eq_true_eq] at this
  exact ⟨this.1, this.2, h1.1⟩
theorem ex_rng {m : Mod} (h : modErr m = 0) : ∀ x ∈ m.ex, 0 ≤ x.at_ ∧ x.at_ < 256 := fun x hx => by
  have f := modErr_facts h
  have := expErr_ok f.2.2.2.2.2.2.2.2.1 x hx
  exact ⟨this.2.1, by omega⟩

set_option maxHeartbeats 4000000 in
set_option maxRecDepth 100000 in
theorem Address_any (k : Krn) (A : Option Addr) (c : Nat) (l : List Plc) (i : Imp) (w : World) (hk : k.ok w) (h : PlsOk w A l) (hp : placedErr k l = 0) :
    Calls Try.prog 35 #[k.v, .slice A l.length c, i.v] w fun e w' => e = .returned (.tuple #[.int .i64 (addrOf k l i).1, .int .i64 (addrOf k l i).2]) ∧ Below w.heap.size w w' := by
  obtain ⟨wk, hwk⟩ : ∃ wk, wk = w.alloc (.cells #[.int .i64 k.major, .int .i64 k.minor, .slice k.eA k.ex.length k.eC] 24) := ⟨_, rfl⟩
  obtain ⟨g0, g1, g2, hzk, hbk⟩ := box3 hwk
  obtain ⟨w0, hw0⟩ : ∃ w0, w0 = wk.alloc (.cells #[.string i.mod, .string i.name, .int .i64 i.major, .int .i64 i.minor] 83) := ⟨_, rfl⟩
  obtain ⟨f0, f1, f2, f3, hz0, hb0⟩ := box4 hw0
  rw [hzk] at f0 f1 f2 f3 hz0 hb0
  have k0 := (hb0.cell (p := ⟨w.heap.size, 0, none⟩) (by simp)).trans g0
  have k1 := (hb0.cell (p := ⟨w.heap.size, 1, none⟩) (by simp)).trans g1
  have k2 := (hb0.cell (p := ⟨w.heap.size, 2, none⟩) (by simp)).trans g2
  have H0 := Lib.hid (show Below w.heap.size w w0 from hbk.trans (hb0.mono (by omega)))
  have HZ := Lib.hid hz0
  have hwk' := hwk.symm
  have hw0' := hw0.symm
  have kq := kernel_eq i.mod
  obtain ⟨R, hR⟩ : ∃ R, R = addrOf k l i := ⟨_, rfl⟩
  rw [← hR]
  have HL := h.len
  unfold big at HL
  have HP := Lib.hid h
  have HPE := Lib.hid hp
  have cK := Lib.hid (fun W (hb : Below w.heap.size w W) => export_any k.eA k.eC k.ex i.name W (hk.below hb).ex)
  clear hwk hw0 hbk hb0 hk h hp g0 g1 g2 hz0
  by_cases t0 : i.mod = kernelBytes
  · rw [addr_kernel t0] at hR
    rw [show decide (i.mod = kernelBytes) = true by simp [t0]] at kq
    clear t0
    by_cases t1 : k.major ≠ i.major
    · rw [if_pos (.inl t1)] at hR
      have t1' : (k.major != i.major) = true := by simp [t1]
      clear t1
      go_enter Try.func35, Try.ntmps35
      go_wp2_with fail
      go_quiet (fail)
      go_wp2_with fail
      go_ret2
      exact ⟨by rw [hR]; rfl, below_drewN H0.out _⟩
    have t1' : (k.major != i.major) = false := by simpa using t1
    by_cases t2 : k.minor < i.minor
    · rw [if_pos (.inr t2)] at hR
      clear t1
      go_enter Try.func35, Try.ntmps35
      go_wp2_with fail
      go_quiet (fail)
      go_wp2_with fail
      go_ret2
      exact ⟨by rw [hR]; rfl, below_drewN H0.out _⟩
    have t2' : decide (k.minor < i.minor) = false := by simpa using t2
    rw [if_neg (by simp only [not_or]; exact ⟨t1, t2⟩)] at hR
    rw [← hR] at cK
    clear t1 t2
    have hec := expAt_cases k.ex i.name
    have eo : expOk k.ex i.name = decide (R.2 = 0) := by unfold expOk; rw [← hR]
    rw [eo] at cK
    rw [← hR] at hec
    have hr := expAt_rng (nm := i.name) (fun x hx => ((krn_ok (placed_ok HPE.out).1) x hx).2) (by omega : (0 : Int) < 4096)
    rw [← hR] at hr
    clear eo hR
    obtain ⟨r1, r2⟩ := R
    simp only at hec hr cK ⊢
    by_cases u : r2 = 0
    · obtain rfl := u
      have q1 : wrap64 r1 = r1 := IntWalk.wrap64_in _ (by omega)
      go_enter Try.func35, Try.ntmps35
      go_wp2_with fail
      go_quiet (fail)
      go_wp2_with (go_at_call 47; refine (cK.out _ (below_drewN H0.out _)).mono ?_; rintro e w1 ⟨rfl, hb1⟩)
      go_ret2
      exact ⟨by simp, (below_drewN H0.out _).trans (hb1.mono (by have := H0.out.size; simpa using this))⟩
    · obtain ⟨rfl, rfl⟩ : r1 = 0 ∧ r2 = 5 := by omega
      go_enter Try.func35, Try.ntmps35
      go_wp2_with fail
      go_quiet (fail)
      go_wp2_with (go_at_call 47; refine (cK.out _ (below_drewN H0.out _)).mono ?_; rintro e w1 ⟨rfl, hb1⟩)
      go_ret2
      exact ⟨rfl, (below_drewN H0.out _).trans (hb1.mono (by have := H0.out.size; simpa using this))⟩
  · have kq' := kq
    rw [show decide (i.mod = kernelBytes) = false by simp [t0]] at kq
    clear kq'
    have hz0 := HZ.out
    have hz1 : w.heap.size + 1 < w0.heap.size := by omega
    have hz2 : w.heap.size < w0.heap.size := by omega
    have cP := Lib.hid (fun W (hb : Below w.heap.size w W) => Place_any A c l i.mod W (HP.out.row.below hb) (by unfold big; omega))
    have LD := Lib.hid (fun (nq : Nat) (W : World) (hb : Below (w0.drewN nq).heap.size (w0.drewN nq) W) => (below_drewN (Below.refl w0.heap.size w0) nq).trans (hb.mono (by simp)))
    clear hz0
    rcases find_cases (named i.mod) l with ⟨e1, e2⟩ | ⟨n, hn, e1, e2⟩
    · rw [addr_none t0 e2] at hR
      rw [e1] at cP
      clear e1 e2 t0
      go_enter Try.func35, Try.ntmps35
      go_wp2_with fail
      go_quiet (fail)
      go_wp2_with (go_at_call 16; refine (cP.out _ (below_drewN H0.out _)).mono ?_; rintro e w1 ⟨rfl, hb1'⟩; have hb1 := LD.out _ _ hb1'; obtain ⟨hc1, hf1⟩ := bcell hb1)
      go_ret2
      exact ⟨by rw [hR]; rfl, H0.out.trans (hb1.mono (by omega))⟩
    · rw [addr_some t0 e2] at hR
      rw [e1] at cP
      clear e1 e2 t0
      have hn' : (n : Int) < l.length := by omega
      have HK := Lib.hid (fun W (hbW : Below w.heap.size w W) => plc_at HP.out.row hbW n hn)
      obtain ⟨ad, rfl, hab, _⟩ := plc_at HP.out.row (Below.refl _ _) n hn
      have hmo := HP.out.each l[n] (List.getElem_mem _)
      obtain ⟨p1, p2, p3⟩ := plc_facts HPE.out (x := l[n]) (List.getElem_mem _)
      have cE := Lib.hid (fun W (hb : Below w.heap.size w W) => export_any (l[n]'hn).m.eA (l[n]'hn).m.eC (l[n]'hn).m.ex i.name W (hmo.below hb).ex)
      have hr := expAt_rng (nm := i.name) (ex_rng p3) (by omega : (0 : Int) < 256)
      have hec := expAt_cases (l[n]'hn).m.ex i.name
      obtain ⟨V, hV⟩ : ∃ V, V = expAt (l[n]'hn).m.ex i.name := ⟨_, rfl⟩
      have eo : expOk (l[n]'hn).m.ex i.name = decide (V.2 = 0) := by unfold expOk; rw [← hV]
      rw [eo] at cE
      rw [← hV] at cE hec hr hR
      have q1 : wrap64 ((l[n]'hn).first * 64) = (l[n]'hn).first * 64 := IntWalk.wrap64_in _ (by omega)
      have q2 : wrap64 (4096 + (l[n]'hn).first * 64) = 4096 + (l[n]'hn).first * 64 := IntWalk.wrap64_in _ (by omega)
      have q3 := Lib.hid (show wrap64 (4096 + (l[n]'hn).first * 64 + V.1) = 4096 + 64 * (l[n]'hn).first + V.1 by rw [IntWalk.wrap64_in _ (by omega)]; omega)
      have HBM := Lib.hid (show (ad.add (n * 8)).block < w.heap.size by rw [block_of_add]; exact hab)
      clear eo hV hmo p3
      -- the call of Place, and what lies behind it
      by_cases t1 : l[n].m.major ≠ i.major ∨ l[n].m.minor < i.minor
      · rw [if_pos t1] at hR
        by_cases t2 : l[n].m.major = i.major
        · have t3 : l[n].m.minor < i.minor := by rcases t1 with h | h; exact absurd t2 h; exact h
          have t2' : (l[n].m.major != i.major) = false := by simp [t2]
          clear t1 t2
          go_enter Try.func35, Try.ntmps35
          go_wp2_with fail
          go_quiet (fail)
          go_wp2_with (go_at_call 16; refine (cP.out _ (below_drewN H0.out _)).mono ?_; rintro e w1 ⟨rfl, hb1'⟩; have hb1 := LD.out _ _ hb1'; obtain ⟨hc1, hf1⟩ := bcell hb1; obtain ⟨_, ead, _, m0, m1, m2, m3, m4, m5, m6, m7⟩ := HK.out _ (H0.out.trans (hb1.mono (by omega))); obtain rfl := Option.some.inj ead; have hwz := hb1.size; have hz3 : w.heap.size + 1 < w1.heap.size := (by omega); have hz4 : w.heap.size < w1.heap.size := (by omega); have hbm : (ad.add (n * 8)).block < w1.heap.size := Nat.lt_of_lt_of_le HBM.out (by omega))
          go_quiet (fail)
          go_wp2_with fail
          go_ret2
          exact ⟨by rw [hR]; rfl, below_drewN ((H0.out.trans (hb1.mono (by omega))).alloc (by omega) _) _⟩
        · have t2' : (l[n].m.major != i.major) = true := by simp [t2]
          clear t1 t2
          go_enter Try.func35, Try.ntmps35
          go_wp2_with fail
          go_quiet (fail)
          go_wp2_with (go_at_call 16; refine (cP.out _ (below_drewN H0.out _)).mono ?_; rintro e w1 ⟨rfl, hb1'⟩; have hb1 := LD.out _ _ hb1'; obtain ⟨hc1, hf1⟩ := bcell hb1; obtain ⟨_, ead, _, m0, m1, m2, m3, m4, m5, m6, m7⟩ := HK.out _ (H0.out.trans (hb1.mono (by omega))); obtain rfl := Option.some.inj ead; have hwz := hb1.size; have hz3 : w.heap.size + 1 < w1.heap.size := (by omega); have hz4 : w.heap.size < w1.heap.size := (by omega); have hbm : (ad.add (n * 8)).block < w1.heap.size := Nat.lt_of_lt_of_le HBM.out (by omega))
          go_quiet (fail)
          go_wp2_with fail
          go_ret2
          exact ⟨by rw [hR]; rfl, below_drewN ((H0.out.trans (hb1.mono (by omega))).alloc (by omega) _) _⟩
      · rw [if_neg t1] at hR
        have t2' : (l[n].m.major != i.major) = false := by simp; omega
        have t3' : decide (l[n].m.minor < i.minor) = false := by simp; omega
        clear t1
        obtain ⟨v1, v2⟩ := V
        simp only at hec hr cE hR q3
        by_cases u : v2 = 0
        · obtain rfl := u
          rw [if_neg (by simp)] at hR
          go_enter Try.func35, Try.ntmps35
          go_wp2_with fail
          go_quiet (fail)
          go_wp2_with (go_at_call 16; refine (cP.out _ (below_drewN H0.out _)).mono ?_; rintro e w1 ⟨rfl, hb1'⟩; have hb1 := LD.out _ _ hb1'; obtain ⟨hc1, hf1⟩ := bcell hb1; obtain ⟨_, ead, _, m0, m1, m2, m3, m4, m5, m6, m7⟩ := HK.out _ (H0.out.trans (hb1.mono (by omega))); obtain rfl := Option.some.inj ead; have hwz := hb1.size; have hz3 : w.heap.size + 1 < w1.heap.size := (by omega); have hz4 : w.heap.size < w1.heap.size := (by omega); have hbm : (ad.add (n * 8)).block < w1.heap.size := Nat.lt_of_lt_of_le HBM.out (by omega))
          go_quiet (fail)
          go_wp2_with (go_at_call 47; refine (cE.out _ (below_drewN ((H0.out.trans (hb1.mono (by omega))).alloc (by omega) _) _)).mono ?_; rintro e w2 ⟨rfl, hb2⟩)
          go_ret2
          exact ⟨(ret_ints (b := 4096 + 64 * (l[n]'hn).first + v1) (d := 0) (by first | exact q3.out | omega) rfl).trans (by rw [hR]), (below_drewN ((H0.out.trans (hb1.mono (by omega))).alloc (by omega) _) _).trans (hb2.mono (by simp; omega))⟩
        · obtain ⟨rfl, rfl⟩ : v1 = 0 ∧ v2 = 5 := by omega
          rw [if_pos (by simp)] at hR
          go_enter Try.func35, Try.ntmps35
          go_wp2_with fail
          go_quiet (fail)
          go_wp2_with (go_at_call 16; refine (cP.out _ (below_drewN H0.out _)).mono ?_; rintro e w1 ⟨rfl, hb1'⟩; have hb1 := LD.out _ _ hb1'; obtain ⟨hc1, hf1⟩ := bcell hb1; obtain ⟨_, ead, _, m0, m1, m2, m3, m4, m5, m6, m7⟩ := HK.out _ (H0.out.trans (hb1.mono (by omega))); obtain rfl := Option.some.inj ead; have hwz := hb1.size; have hz3 : w.heap.size + 1 < w1.heap.size := (by omega); have hz4 : w.heap.size < w1.heap.size := (by omega); have hbm : (ad.add (n * 8)).block < w1.heap.size := Nat.lt_of_lt_of_le HBM.out (by omega))
          go_quiet (fail)
          go_wp2_with (go_at_call 47; refine (cE.out _ (below_drewN ((H0.out.trans (hb1.mono (by omega))).alloc (by omega) _) _)).mono ?_; rintro e w2 ⟨rfl, hb2⟩)
          go_ret2
          exact ⟨by rw [hR]; rfl, (below_drewN ((H0.out.trans (hb1.mono (by omega))).alloc (by omega) _) _).trans (hb2.mono (by simp; omega))⟩

end Go.Proofs.Ytjnfemcfohflnaa
