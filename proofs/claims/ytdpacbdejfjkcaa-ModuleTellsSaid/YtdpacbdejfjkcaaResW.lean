import Derived.Test.YtdpacbdejfjkcaaAll2W
/- resolve.Find, resolve.All (chapter D), and the document's SameInts. -/
namespace Go.Proofs.Ytdpacbdejfjkcaa
open Go.RowKit

def findOf (k : Krn) (l : List Plc) (i : Imp) : Int × Int := if placedErr k l ≠ 0 then (0, placedErr k l) else if impErr i ≠ 0 then (0, impErr i) else addrOf k l i
def allOf (k : Krn) (l : List Plc) (m : Mod) : List Int × Int := if placedErr k l ≠ 0 then ([], placedErr k l) else if modErr m ≠ 0 then ([], modErr m) else addrsOf k l m.im

set_option maxHeartbeats 4000000 in
set_option maxRecDepth 100000 in
theorem Find_any (k : Krn) (A : Option Addr) (c : Nat) (l : List Plc) (i : Imp) (w : World) (hk : k.ok w) (h : PlsOk w A l) (hi : i.mod.size ≤ big ∧ i.name.size ≤ big) :
    Calls Try.prog 21 #[k.v, .slice A l.length c, i.v] w fun e w' => e = .returned (.tuple #[.int .i64 (findOf k l i).1, .int .i64 (findOf k l i).2]) ∧ Below w.heap.size w w' := by
  obtain ⟨wk, hwk⟩ : ∃ wk, wk = w.alloc (.cells #[.int .i64 k.major, .int .i64 k.minor, .slice k.eA k.ex.length k.eC] 50) := ⟨_, rfl⟩
  obtain ⟨g0, g1, g2, hzk, hbk⟩ := box3 hwk
  obtain ⟨w0, hw0⟩ : ∃ w0, w0 = wk.alloc (.cells #[.string i.mod, .string i.name, .int .i64 i.major, .int .i64 i.minor] 52) := ⟨_, rfl⟩
  obtain ⟨f0, f1, f2, f3, hz0, hb0⟩ := box4 hw0
  rw [hzk] at f0 f1 f2 f3 hz0 hb0
  have k0 := (hb0.cell (p := ⟨w.heap.size, 0, none⟩) (by simp)).trans g0
  have k1 := (hb0.cell (p := ⟨w.heap.size, 1, none⟩) (by simp)).trans g1
  have k2 := (hb0.cell (p := ⟨w.heap.size, 2, none⟩) (by simp)).trans g2
  have H0 := Lib.hid (show Below w.heap.size w w0 from hbk.trans (hb0.mono (by omega)))
  have HZ := Lib.hid hz0
  have hwk' := hwk.symm
  have hw0' := hw0.symm
  have hz1 : w.heap.size + 1 < w0.heap.size := by omega
  have hz2 : w.heap.size < w0.heap.size := by omega
  obtain ⟨R, hR⟩ : ∃ R, R = findOf k l i := ⟨_, rfl⟩
  rw [← hR]
  unfold findOf at hR
  have c1 := Lib.hid (Placed_any k A c l w0 (hk.below H0.out) (h.below H0.out))
  have c2 := Lib.hid (fun W => Import_any i.mod i.name i.major i.minor W hi.1 hi.2)
  have c3 := Lib.hid (fun hp W (hb : Below w.heap.size w W) => Address_any k A c l i W (hk.below hb) (h.below hb) hp)
  have ei : impErr i = impErr ⟨i.mod, i.name, i.major, i.minor⟩ := rfl
  rw [← ei] at c2
  clear hwk hw0 hbk hb0 hk h hi g0 g1 g2 hz0 ei
  by_cases t1 : placedErr k l = 0
  · rw [if_neg (by omega)] at hR
    rw [t1] at c1
    by_cases t2 : impErr i = 0
    · rw [if_neg (by omega)] at hR
      rw [t2] at c2
      have c4 := Lib.hid (c3.out t1)
      clear t1 t2 c3
      go_enter Try.func21, Try.ntmps21
      go_wp2_with (first | (go_at_call 49; refine (c1.out).mono ?_; rintro e w1 ⟨rfl, hb1⟩; obtain ⟨hc1, hf1⟩ := bcell hb1; have hs1 := hb1.size; have hs3 : w.heap.size + 1 < w1.heap.size := (by omega); have hs4 : w.heap.size < w1.heap.size := (by omega)) | (go_at_call 50; refine (c2.out _).mono ?_; rintro e w2 ⟨rfl, hb2⟩; obtain ⟨hc2, hf2⟩ := bcell hb2; have hs2 := hb2.size) | (go_at_call 51; refine (c4.out _ ((H0.out.trans (hb1.mono (by omega))).trans (hb2.mono (by omega)))).mono ?_; rintro e w3 ⟨rfl, hb3⟩))
      go_ret2
      exact ⟨by rw [hR]; rfl, ((H0.out.trans (hb1.mono (by omega))).trans (hb2.mono (by omega))).trans (hb3.mono (by omega))⟩
    · rw [if_pos t2] at hR
      have t2' : (impErr i != 0) = true := by simp [t2]
      generalize impErr i = ie at *
      clear t1 t2 c3
      go_enter Try.func21, Try.ntmps21
      go_wp2_with (first | (go_at_call 49; refine (c1.out).mono ?_; rintro e w1 ⟨rfl, hb1⟩; obtain ⟨hc1, hf1⟩ := bcell hb1; have hs1 := hb1.size; have hs3 : w.heap.size + 1 < w1.heap.size := (by omega); have hs4 : w.heap.size < w1.heap.size := (by omega)) | (go_at_call 50; refine (c2.out _).mono ?_; rintro e w2 ⟨rfl, hb2⟩; obtain ⟨hc2, hf2⟩ := bcell hb2; have hs2 := hb2.size))
      go_ret2
      exact ⟨by rw [hR]; rfl, (H0.out.trans (hb1.mono (by omega))).trans (hb2.mono (by omega))⟩
  · rw [if_pos t1] at hR
    have t1' : (placedErr k l == 0) = false := by simp [t1]
    have t1'' : (placedErr k l != 0) = true := by simp [t1]
    clear t1 c3
    generalize placedErr k l = pe at *
    go_enter Try.func21, Try.ntmps21
    go_wp2_with (go_at_call 49; refine (c1.out).mono ?_; rintro e w1 ⟨rfl, hb1⟩; obtain ⟨hc1, hf1⟩ := bcell hb1; have hs1 := hb1.size; have hs3 : w.heap.size + 1 < w1.heap.size := (by omega); have hs4 : w.heap.size < w1.heap.size := (by omega))
    go_ret2
    exact ⟨by rw [hR]; rfl, H0.out.trans (hb1.mono (by omega))⟩

set_option maxHeartbeats 4000000 in
set_option maxRecDepth 100000 in
theorem All_any (k : Krn) (A : Option Addr) (c : Nat) (l : List Plc) (m : Mod) (w : World) (hk : k.ok w) (h : PlsOk w A l) (hm : m.ok w) :
    Calls Try.prog 22 #[k.v, .slice A l.length c, m.v] w fun e w' =>
      (∃ (A' : Option Addr) (c' : Nat), e = .returned (.tuple #[.slice A' (allOf k l m).1.length c', .int .i64 (allOf k l m).2]) ∧ IntRow w' A' (allOf k l m).1) ∧ Below w.heap.size w w' := by
  obtain ⟨wk, hwk⟩ : ∃ wk, wk = w.alloc (.cells #[.int .i64 k.major, .int .i64 k.minor, .slice k.eA k.ex.length k.eC] 50) := ⟨_, rfl⟩
  obtain ⟨g0, g1, g2, hzk, hbk⟩ := box3 hwk
  obtain ⟨w0, hw0⟩ : ∃ w0, w0 = wk.alloc (.cells #[.string m.name, .int .i64 m.major, .int .i64 m.minor, .string m.text, .slice m.eA m.ex.length m.eC, .slice m.iA m.im.length m.iC, .slice m.pA m.pa.length m.pC] 26) := ⟨_, rfl⟩
  obtain ⟨f0, f1, f2, f3, f4, f5, f6, hz0, hb0⟩ := box7 hw0
  rw [hzk] at f0 f1 f2 f3 f4 f5 f6 hz0 hb0
  have k0 := (hb0.cell (p := ⟨w.heap.size, 0, none⟩) (by simp)).trans g0
  have k1 := (hb0.cell (p := ⟨w.heap.size, 1, none⟩) (by simp)).trans g1
  have k2 := (hb0.cell (p := ⟨w.heap.size, 2, none⟩) (by simp)).trans g2
  have H0 := Lib.hid (show Below w.heap.size w w0 from hbk.trans (hb0.mono (by omega)))
  have HZ := Lib.hid hz0
  have hwk' := hwk.symm
  have hw0' := hw0.symm
  have hz1 : w.heap.size + 1 < w0.heap.size := by omega
  have hz2 : w.heap.size < w0.heap.size := by omega
  obtain ⟨R, hR⟩ : ∃ R, R = allOf k l m := ⟨_, rfl⟩
  rw [← hR]
  unfold allOf at hR
  have c1 := Lib.hid (Placed_any k A c l w0 (hk.below H0.out) (h.below H0.out))
  have c2 := Lib.hid (fun W (hb : Below w.heap.size w W) => Check_any m W (hm.below hb))
  have c3 := Lib.hid (fun hp hi W (hb : Below w.heap.size w W) => Addresses_any k A c l m.name m.text m.major m.minor m.ex m.im m.pa m.eA m.iA m.pA m.eC m.iC m.pC W (hk.below hb) (h.below hb) (hm.below hb).im hi hp)
  clear hwk hw0 hbk hb0 hk h hm g0 g1 g2 hz0
  by_cases t1 : placedErr k l = 0
  · rw [if_neg (by omega)] at hR
    rw [t1] at c1
    by_cases t2 : modErr m = 0
    · rw [if_neg (by omega)] at hR
      rw [t2] at c2
      have mf := modErr_facts t2
      have c4 := Lib.hid (c3.out t1 mf.2.2.2.2.2.2.1)
      clear t1 t2 c3 mf
      go_enter Try.func22, Try.ntmps22
      go_wp2_with (first | (go_at_call 49; refine (c1.out).mono ?_; rintro e w1 ⟨rfl, hb1⟩; obtain ⟨hc1, hf1⟩ := bcell hb1; have hs1 := hb1.size; have hs3 : w.heap.size + 1 < w1.heap.size := (by omega); have hs4 : w.heap.size < w1.heap.size := (by omega)) | (go_at_call 36; refine (c2.out _ (H0.out.trans (hb1.mono (by omega)))).mono ?_; rintro e w2 ⟨rfl, hb2⟩; obtain ⟨hc2, hf2⟩ := bcell hb2; have hs2 := hb2.size) | (go_at_call 52; refine (c4.out _ ((H0.out.trans (hb1.mono (by omega))).trans (hb2.mono (by omega)))).mono ?_; rintro e w3 ⟨⟨A', c', rfl, hrow⟩, hb3⟩))
      go_ret2
      exact ⟨⟨A', c', by rw [hR]; rfl, by rw [hR]; exact hrow⟩, ((H0.out.trans (hb1.mono (by omega))).trans (hb2.mono (by omega))).trans (hb3.mono (by omega))⟩
    · rw [if_pos t2] at hR
      have t2' : (modErr m != 0) = true := by simp [t2]
      clear t1 t2 c3
      generalize modErr m = ie at *
      go_enter Try.func22, Try.ntmps22
      go_wp2_with (first | (go_at_call 49; refine (c1.out).mono ?_; rintro e w1 ⟨rfl, hb1⟩; obtain ⟨hc1, hf1⟩ := bcell hb1; have hs1 := hb1.size; have hs3 : w.heap.size + 1 < w1.heap.size := (by omega); have hs4 : w.heap.size < w1.heap.size := (by omega)) | (go_at_call 36; refine (c2.out _ (H0.out.trans (hb1.mono (by omega)))).mono ?_; rintro e w2 ⟨rfl, hb2⟩; obtain ⟨hc2, hf2⟩ := bcell hb2; have hs2 := hb2.size))
      go_ret2
      exact ⟨⟨none, 0, by rw [hR]; rfl, by rw [hR]; exact Row.nil⟩, (H0.out.trans (hb1.mono (by omega))).trans (hb2.mono (by omega))⟩
  · rw [if_pos t1] at hR
    have t1' : (placedErr k l == 0) = false := by simp [t1]
    have t1'' : (placedErr k l != 0) = true := by simp [t1]
    clear t1 c3
    generalize placedErr k l = pe at *
    go_enter Try.func22, Try.ntmps22
    go_wp2_with (go_at_call 49; refine (c1.out).mono ?_; rintro e w1 ⟨rfl, hb1⟩; obtain ⟨hc1, hf1⟩ := bcell hb1; have hs1 := hb1.size; have hs3 : w.heap.size + 1 < w1.heap.size := (by omega); have hs4 : w.heap.size < w1.heap.size := (by omega))
    go_ret2
    exact ⟨⟨none, 0, by rw [hR]; rfl, by rw [hR]; exact Row.nil⟩, H0.out.trans (hb1.mono (by omega))⟩

theorem int_at {w w' : World} {A : Option Addr} {l : List Int} (h : IntRow w A l) (hb : Below w.heap.size w w') (i : Nat) (hi : i < l.length) :
    ∃ ad, A = some ad ∧ ad.block < w.heap.size ∧ w'.cell? (ad.add i) = some (.int .i64 l[i]) := by
  obtain ⟨ad, rfl, hab, hc⟩ := Row.at_ (enc := fun n => [iv n]) (k := 1) (fun _ => rfl) h i hi
  have e0 := hc 0 _ rfl
  rw [add_zero_, Nat.mul_one] at e0
  exact ⟨ad, rfl, hab, (hb.cell (by rw [block_of_add]; exact hab)).trans e0⟩

set_option maxHeartbeats 4000000 in
set_option maxRecDepth 100000 in
theorem SameInts_any (A B : Option Addr) (c d : Nat) (l r : List Int) (w : World) (h : IntRow w A l) (h' : IntRow w B r) (hl : l.length ≤ big) (hr : r.length ≤ big) :
    Calls Try.prog 30 #[.slice A l.length c, .slice B r.length d] w fun e w' => e = .returned (.bool (decide (l = r))) ∧ Below w.heap.size w w' := by
  unfold big at hl hr
  have HL := Lib.hid h
  have HR := Lib.hid h'
  clear h h'
  obtain ⟨R, hR⟩ : ∃ R, R = decide (l = r) := ⟨_, rfl⟩
  rw [← hR]
  have HD := Lib.hid hR
  clear hR
  by_cases hlen : l.length = r.length
  · have hlen' : ((l.length : Int) != r.length) = false := by simp; omega
    have HLN := Lib.hid hlen
    clear hlen
    go_enter Try.func30, Try.ntmps30
    go_wp2_with fail
    go_loopw [5] (fun i wr => ∃ j : Nat, j ≤ l.length ∧ i = .int .i64 j ∧ (∀ k (hk : k < l.length) (hk' : k < r.length), k < j → l[k] = r[k]) ∧ Below w.heap.size w wr) (fun i _ => l.length - (intOf i).toNat)
    case atStart => exact ⟨0, by omega, rfl, by omega, Below.refl _ _⟩
    case round =>
      obtain ⟨j, hj, rfl, hN, hb⟩ := hrel
      have HN := Lib.hid hN
      have HB := Lib.hid hb
      clear hN
      have hln := HLN.out
      by_cases hlt : j < l.length
      · have hltr : j < r.length := by omega
        have hlt' : (j : Int) < l.length := by omega
        have hlt'' : (j : Int) < r.length := by omega
        obtain ⟨ad, rfl, hab, h0⟩ := int_at HL.out hb j hlt
        obtain ⟨bd, rfl, hbb, h1⟩ := int_at HR.out hb j hltr
        clear hb hln
        by_cases he : l[j] = r[j]
        · have he' : (l[j] != r[j]) = false := by simp [he]
          have HE := Lib.hid he
          clear he
          go_wp2_with fail
          go_quiet (fail)
          go_wp2_with fail
          go_roundw
          case rel => exact ⟨j + 1, by omega, by go_num, fun k hk hk' hkj => by rcases Nat.lt_succ_iff_lt_or_eq.1 hkj with h | rfl; exact HN.out k hk hk' h; exact HE.out, below_drewN HB.out _⟩
          case measure => (simp [intOf]; try omega)
        · have he' : (l[j] != r[j]) = true := by simp [he]
          have hne := Lib.hid (show R = false by rw [HD.out]; simp only [decide_eq_false_iff_not]; rintro rfl; exact he rfl)
          clear he
          go_wp2_with fail
          go_quiet (fail)
          go_wp2_with fail
          go_ret
          exact ⟨ret_bool hne.out.symm, below_drewN HB.out _⟩
      · have heq := Lib.hid (show R = true by rw [HD.out]; simp only [decide_eq_true_eq]; exact List.ext_getElem hln (fun k hk hk' => HN.out k hk hk' (by omega)))
        clear hb hln
        go_wp2_with fail
        go_ret
        exact ⟨ret_bool heq.out.symm, HB.out⟩
  · have hlen' : ((l.length : Int) != r.length) = true := by simp; omega
    have hne := Lib.hid (show R = false by rw [HD.out]; simp only [decide_eq_false_iff_not]; rintro rfl; exact hlen rfl)
    clear hlen
    go_enter Try.func30, Try.ntmps30
    go_wp2_with fail
    go_ret
    exact ⟨ret_bool hne.out.symm, Below.refl _ _⟩

end Go.Proofs.Ytdpacbdejfjkcaa
