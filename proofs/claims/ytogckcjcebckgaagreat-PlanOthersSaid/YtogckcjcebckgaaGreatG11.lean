import Derived.Test.YtogckcjcebckgaaGreatG06
import Derived.Test.YtogckcjcebckgaaGreatG07
import Derived.Test.YtogckcjcebckgaaGreatG04
import Derived.RangeFuncBox
import Derived.Test.YtogckcjcebckgaaGreatG05
import Derived.Test.YtogckcjcebckgaaGreatG02
section
/- resolve.Find, resolve.All (chapter D), and the document's SameInts. -/
namespace Go.Proofs.YtogckcjcebckgaaGreat
open Go.RowKit

def findOf (k : Krn) (l : List Plc) (i : Imp) : Int × Int := if placedErr k l ≠ 0 then (0, placedErr k l) else if impErr i ≠ 0 then (0, impErr i) else addrOf k l i
def allOf (k : Krn) (l : List Plc) (m : Mod) : List Int × Int := if placedErr k l ≠ 0 then ([], placedErr k l) else if modErr m ≠ 0 then ([], modErr m) else addrsOf k l m.im

set_option maxHeartbeats 4000000 in
set_option maxRecDepth 100000 in
theorem Find_any (k : Krn) (A : Option Addr) (c : Nat) (l : List Plc) (i : Imp) (w : World) (hk : k.ok w) (h : PlsOk w A l) (hi : i.mod.size ≤ big ∧ i.name.size ≤ big) :
    Calls Tryz.prog 130 #[k.v, .slice A l.length c, i.v] w fun e w' => e = .returned (.tuple #[.int .i64 (findOf k l i).1, .int .i64 (findOf k l i).2]) ∧ Below w.heap.size w w' := by
  obtain ⟨wk, hwk⟩ : ∃ wk, wk = w.alloc (.cells #[.int .i64 k.major, .int .i64 k.minor, .slice k.eA k.ex.length k.eC] 24) := ⟨_, rfl⟩
  obtain ⟨g0, g1, g2, hzk, hbk⟩ := box3 hwk
  obtain ⟨w0, hw0⟩ : ∃ w0, w0 = wk.alloc (.cells #[.string i.mod, .string i.name, .int .i64 i.major, .int .i64 i.minor] 174) := ⟨_, rfl⟩
  obtain ⟨f0, f1, f2, f3, hz0, hb0⟩ := box4 hw0
  rw [hzk] at f0 f1 f2 f3 hz0 hb0
  have k0 := (hb0.cell (p := ⟨w.heap.size, 0, none⟩) (by simp)).trans g0
  have k1 := (hb0.cell (p := ⟨w.heap.size, 1, none⟩) (by simp)).trans g1
  have k2 := (hb0.cell (p := ⟨w.heap.size, 2, none⟩) (by simp)).trans g2
  have H0 := Lib.hid (show Below w.heap.size w w0 from hbk.trans (hb0.mono (by omega)))
  have HZ := Lib.hid hz0
  have hwk' := hwk.symm
  have hw0' := hw0.symm
  have hz1 : w.heap.size + 1 < w0.heap.size := by omega
  have hz2 : w.heap.size < w0.heap.size := by omega
  obtain ⟨R, hR⟩ : ∃ R, R = findOf k l i := ⟨_, rfl⟩
  rw [← hR]
  unfold findOf at hR
  have c1 := Lib.hid (Placed_any k A c l w0 (hk.below H0.out) (h.below H0.out))
  have c2 := Lib.hid (fun W => Import_any i.mod i.name i.major i.minor W hi.1 hi.2)
  have c3 := Lib.hid (fun hp W (hb : Below w.heap.size w W) => Address_any k A c l i W (hk.below hb) (h.below hb) hp)
  have ei : impErr i = impErr ⟨i.mod, i.name, i.major, i.minor⟩ := rfl
  rw [← ei] at c2
  clear hwk hw0 hbk hb0 hk h hi g0 g1 g2 hz0 ei
  by_cases t1 : placedErr k l = 0
  · rw [if_neg (by omega)] at hR
    rw [t1] at c1
    by_cases t2 : impErr i = 0
    · rw [if_neg (by omega)] at hR
      rw [t2] at c2
      have c4 := Lib.hid (c3.out t1)
      clear t1 t2 c3
      go_enter Tryz.func130, Tryz.ntmps130
      go_wp2_with (first | (go_at_call 144; refine (c1.out).mono ?_; rintro e w1 ⟨rfl, hb1⟩; obtain ⟨hc1, hf1⟩ := bcell hb1; have hs1 := hb1.size; have hs3 : w.heap.size + 1 < w1.heap.size := (by omega); have hs4 : w.heap.size < w1.heap.size := (by omega)) | (go_at_call 197; refine (c2.out _).mono ?_; rintro e w2 ⟨rfl, hb2⟩; obtain ⟨hc2, hf2⟩ := bcell hb2; have hs2 := hb2.size) | (go_at_call 198; refine (c4.out _ ((H0.out.trans (hb1.mono (by omega))).trans (hb2.mono (by omega)))).mono ?_; rintro e w3 ⟨rfl, hb3⟩))
      go_ret2
      exact ⟨by rw [hR]; rfl, ((H0.out.trans (hb1.mono (by omega))).trans (hb2.mono (by omega))).trans (hb3.mono (by omega))⟩
    · rw [if_pos t2] at hR
      have t2' : (impErr i != 0) = true := by simp [t2]
      generalize impErr i = ie at *
      clear t1 t2 c3
      go_enter Tryz.func130, Tryz.ntmps130
      go_wp2_with (first | (go_at_call 144; refine (c1.out).mono ?_; rintro e w1 ⟨rfl, hb1⟩; obtain ⟨hc1, hf1⟩ := bcell hb1; have hs1 := hb1.size; have hs3 : w.heap.size + 1 < w1.heap.size := (by omega); have hs4 : w.heap.size < w1.heap.size := (by omega)) | (go_at_call 197; refine (c2.out _).mono ?_; rintro e w2 ⟨rfl, hb2⟩; obtain ⟨hc2, hf2⟩ := bcell hb2; have hs2 := hb2.size))
      go_ret2
      exact ⟨by rw [hR]; rfl, (H0.out.trans (hb1.mono (by omega))).trans (hb2.mono (by omega))⟩
  · rw [if_pos t1] at hR
    have t1' : (placedErr k l == 0) = false := by simp [t1]
    have t1'' : (placedErr k l != 0) = true := by simp [t1]
    clear t1 c3
    generalize placedErr k l = pe at *
    go_enter Tryz.func130, Tryz.ntmps130
    go_wp2_with (go_at_call 144; refine (c1.out).mono ?_; rintro e w1 ⟨rfl, hb1⟩; obtain ⟨hc1, hf1⟩ := bcell hb1; have hs1 := hb1.size; have hs3 : w.heap.size + 1 < w1.heap.size := (by omega); have hs4 : w.heap.size < w1.heap.size := (by omega))
    go_ret2
    exact ⟨by rw [hR]; rfl, H0.out.trans (hb1.mono (by omega))⟩

set_option maxHeartbeats 4000000 in
set_option maxRecDepth 100000 in
theorem All_any (k : Krn) (A : Option Addr) (c : Nat) (l : List Plc) (m : Mod) (w : World) (hk : k.ok w) (h : PlsOk w A l) (hm : m.ok w) :
    Calls Tryz.prog 67 #[k.v, .slice A l.length c, m.v] w fun e w' =>
      (∃ (A' : Option Addr) (c' : Nat), e = .returned (.tuple #[.slice A' (allOf k l m).1.length c', .int .i64 (allOf k l m).2]) ∧ IntRow w' A' (allOf k l m).1) ∧ Below w.heap.size w w' := by
  obtain ⟨wk, hwk⟩ : ∃ wk, wk = w.alloc (.cells #[.int .i64 k.major, .int .i64 k.minor, .slice k.eA k.ex.length k.eC] 24) := ⟨_, rfl⟩
  obtain ⟨g0, g1, g2, hzk, hbk⟩ := box3 hwk
  obtain ⟨w0, hw0⟩ : ∃ w0, w0 = wk.alloc (.cells #[.string m.name, .int .i64 m.major, .int .i64 m.minor, .string m.text, .slice m.eA m.ex.length m.eC, .slice m.iA m.im.length m.iC, .slice m.pA m.pa.length m.pC] 75) := ⟨_, rfl⟩
  obtain ⟨f0, f1, f2, f3, f4, f5, f6, hz0, hb0⟩ := box7 hw0
  rw [hzk] at f0 f1 f2 f3 f4 f5 f6 hz0 hb0
  have k0 := (hb0.cell (p := ⟨w.heap.size, 0, none⟩) (by simp)).trans g0
  have k1 := (hb0.cell (p := ⟨w.heap.size, 1, none⟩) (by simp)).trans g1
  have k2 := (hb0.cell (p := ⟨w.heap.size, 2, none⟩) (by simp)).trans g2
  have H0 := Lib.hid (show Below w.heap.size w w0 from hbk.trans (hb0.mono (by omega)))
  have HZ := Lib.hid hz0
  have hwk' := hwk.symm
  have hw0' := hw0.symm
  have hz1 : w.heap.size + 1 < w0.heap.size := by omega
  have hz2 : w.heap.size < w0.heap.size := by omega
  obtain ⟨R, hR⟩ : ∃ R, R = allOf k l m := ⟨_, rfl⟩
  rw [← hR]
  unfold allOf at hR
  have c1 := Lib.hid (Placed_any k A c l w0 (hk.below H0.out) (h.below H0.out))
  have c2 := Lib.hid (fun W (hb : Below w.heap.size w W) => Check_any m W (hm.below hb))
  have c3 := Lib.hid (fun hp hi W (hb : Below w.heap.size w W) => Addresses_any k A c l m.name m.text m.major m.minor m.ex m.im m.pa m.eA m.iA m.pA m.eC m.iC m.pC W (hk.below hb) (h.below hb) (hm.below hb).im hi hp)
  clear hwk hw0 hbk hb0 hk h hm g0 g1 g2 hz0
  by_cases t1 : placedErr k l = 0
  · rw [if_neg (by omega)] at hR
    rw [t1] at c1
    by_cases t2 : modErr m = 0
    · rw [if_neg (by omega)] at hR
      rw [t2] at c2
      have mf := modErr_facts t2
      have c4 := Lib.hid (c3.out t1 mf.2.2.2.2.2.2.1)
      clear t1 t2 c3 mf
      go_enter Tryz.func67, Tryz.ntmps67
      go_wp2_with (first | (go_at_call 144; refine (c1.out).mono ?_; rintro e w1 ⟨rfl, hb1⟩; obtain ⟨hc1, hf1⟩ := bcell hb1; have hs1 := hb1.size; have hs3 : w.heap.size + 1 < w1.heap.size := (by omega); have hs4 : w.heap.size < w1.heap.size := (by omega)) | (go_at_call 126; refine (c2.out _ (H0.out.trans (hb1.mono (by omega)))).mono ?_; rintro e w2 ⟨rfl, hb2⟩; obtain ⟨hc2, hf2⟩ := bcell hb2; have hs2 := hb2.size) | (go_at_call 145; refine (c4.out _ ((H0.out.trans (hb1.mono (by omega))).trans (hb2.mono (by omega)))).mono ?_; rintro e w3 ⟨⟨A', c', rfl, hrow⟩, hb3⟩))
      go_ret2
      exact ⟨⟨A', c', by rw [hR]; rfl, by rw [hR]; exact hrow⟩, ((H0.out.trans (hb1.mono (by omega))).trans (hb2.mono (by omega))).trans (hb3.mono (by omega))⟩
    · rw [if_pos t2] at hR
      have t2' : (modErr m != 0) = true := by simp [t2]
      clear t1 t2 c3
      generalize modErr m = ie at *
      go_enter Tryz.func67, Tryz.ntmps67
      go_wp2_with (first | (go_at_call 144; refine (c1.out).mono ?_; rintro e w1 ⟨rfl, hb1⟩; obtain ⟨hc1, hf1⟩ := bcell hb1; have hs1 := hb1.size; have hs3 : w.heap.size + 1 < w1.heap.size := (by omega); have hs4 : w.heap.size < w1.heap.size := (by omega)) | (go_at_call 126; refine (c2.out _ (H0.out.trans (hb1.mono (by omega)))).mono ?_; rintro e w2 ⟨rfl, hb2⟩; obtain ⟨hc2, hf2⟩ := bcell hb2; have hs2 := hb2.size))
      go_ret2
      exact ⟨⟨none, 0, by rw [hR]; rfl, by rw [hR]; exact Row.nil⟩, (H0.out.trans (hb1.mono (by omega))).trans (hb2.mono (by omega))⟩
  · rw [if_pos t1] at hR
    have t1' : (placedErr k l == 0) = false := by simp [t1]
    have t1'' : (placedErr k l != 0) = true := by simp [t1]
    clear t1 c3
    generalize placedErr k l = pe at *
    go_enter Tryz.func67, Tryz.ntmps67
    go_wp2_with (go_at_call 144; refine (c1.out).mono ?_; rintro e w1 ⟨rfl, hb1⟩; obtain ⟨hc1, hf1⟩ := bcell hb1; have hs1 := hb1.size; have hs3 : w.heap.size + 1 < w1.heap.size := (by omega); have hs4 : w.heap.size < w1.heap.size := (by omega))
    go_ret2
    exact ⟨⟨none, 0, by rw [hR]; rfl, by rw [hR]; exact Row.nil⟩, H0.out.trans (hb1.mono (by omega))⟩

theorem int_at {w w' : World} {A : Option Addr} {l : List Int} (h : IntRow w A l) (hb : Below w.heap.size w w') (i : Nat) (hi : i < l.length) :
    ∃ ad, A = some ad ∧ ad.block < w.heap.size ∧ w'.cell? (ad.add i) = some (.int .i64 l[i]) := by
  obtain ⟨ad, rfl, hab, hc⟩ := Row.at_ (enc := fun n => [iv n]) (k := 1) (fun _ => rfl) h i hi
  have e0 := hc 0 _ rfl
  rw [add_zero_, Nat.mul_one] at e0
  exact ⟨ad, rfl, hab, (hb.cell (by rw [block_of_add]; exact hab)).trans e0⟩

set_option maxHeartbeats 4000000 in
set_option maxRecDepth 100000 in
theorem SameInts_any (A B : Option Addr) (c d : Nat) (l r : List Int) (w : World) (h : IntRow w A l) (h' : IntRow w B r) (hl : l.length ≤ big) (hr : r.length ≤ big) :
    Calls Tryz.prog 131 #[.slice A l.length c, .slice B r.length d] w fun e w' => e = .returned (.bool (decide (l = r))) ∧ Below w.heap.size w w' := by
  unfold big at hl hr
  have HL := Lib.hid h
  have HR := Lib.hid h'
  clear h h'
  obtain ⟨R, hR⟩ : ∃ R, R = decide (l = r) := ⟨_, rfl⟩
  rw [← hR]
  have HD := Lib.hid hR
  clear hR
  by_cases hlen : l.length = r.length
  · have hlen' : ((l.length : Int) != r.length) = false := by simp; omega
    have HLN := Lib.hid hlen
    clear hlen
    go_enter Tryz.func131, Tryz.ntmps131
    go_wp2_with fail
    go_loopw [5] (fun i wr => ∃ j : Nat, j ≤ l.length ∧ i = .int .i64 j ∧ (∀ k (hk : k < l.length) (hk' : k < r.length), k < j → l[k] = r[k]) ∧ Below w.heap.size w wr) (fun i _ => l.length - (intOf i).toNat)
    case atStart => exact ⟨0, by omega, rfl, by omega, Below.refl _ _⟩
    case round =>
      obtain ⟨j, hj, rfl, hN, hb⟩ := hrel
      have HN := Lib.hid hN
      have HB := Lib.hid hb
      clear hN
      have hln := HLN.out
      by_cases hlt : j < l.length
      · have hltr : j < r.length := by omega
        have hlt' : (j : Int) < l.length := by omega
        have hlt'' : (j : Int) < r.length := by omega
        obtain ⟨ad, rfl, hab, h0⟩ := int_at HL.out hb j hlt
        obtain ⟨bd, rfl, hbb, h1⟩ := int_at HR.out hb j hltr
        clear hb hln
        by_cases he : l[j] = r[j]
        · have he' : (l[j] != r[j]) = false := by simp [he]
          have HE := Lib.hid he
          clear he
          go_wp2_with fail
          go_quiet (fail)
          go_wp2_with fail
          go_roundw
          case rel => exact ⟨j + 1, by omega, by go_num, fun k hk hk' hkj => by rcases Nat.lt_succ_iff_lt_or_eq.1 hkj with h | rfl; exact HN.out k hk hk' h; exact HE.out, below_drewN HB.out _⟩
          case measure => (simp [intOf]; try omega)
        · have he' : (l[j] != r[j]) = true := by simp [he]
          have hne := Lib.hid (show R = false by rw [HD.out]; simp only [decide_eq_false_iff_not]; rintro rfl; exact he rfl)
          clear he
          go_wp2_with fail
          go_quiet (fail)
          go_wp2_with fail
          go_ret
          exact ⟨ret_bool hne.out.symm, below_drewN HB.out _⟩
      · have heq := Lib.hid (show R = true by rw [HD.out]; simp only [decide_eq_true_eq]; exact List.ext_getElem hln (fun k hk hk' => HN.out k hk hk' (by omega)))
        clear hb hln
        go_wp2_with fail
        go_ret
        exact ⟨ret_bool heq.out.symm, HB.out⟩
  · have hlen' : ((l.length : Int) != r.length) = true := by simp; omega
    have hne := Lib.hid (show R = false by rw [HD.out]; simp only [decide_eq_false_iff_not]; rintro rfl; exact hlen rfl)
    clear hlen
    go_enter Tryz.func131, Tryz.ntmps131
    go_wp2_with fail
    go_ret
    exact ⟨ret_bool hne.out.symm, Below.refl _ _⟩

end Go.Proofs.YtogckcjcebckgaaGreat
end

section
/- resolveBegun returns true. -/
namespace Go.Proofs.YtogckcjcebckgaaGreat
open Go.RowKit

abbrev pairL (a1 a2 a3 b1 b2 b3 : Option Addr) (a4 a5 a6 b4 b5 b6 : Nat) : List Plc := [⟨appM a1 a2 a3 a4 a5 a6, 1⟩, ⟨libM b1 b2 b3 b4 b5 b6, 4⟩]
theorem begun_find1 (A c a1 a2 a3 a4 a5 a6 b1 b2 b3 b4 b5 b6) : findOf (kern A c) (pairL a1 a2 a3 b1 b2 b3 a4 a5 a6 b4 b5 b6) ⟨⟨#[108, 105, 98]⟩, ⟨#[102]⟩, 1, 1⟩ = (4356, 0) := by kernel_rfl
theorem begun_find2 (A c a1 a2 a3 a4 a5 a6 b1 b2 b3 b4 b5 b6) : findOf (kern A c) (pairL a1 a2 a3 b1 b2 b3 a4 a5 a6 b4 b5 b6) ⟨⟨#[108, 105, 98]⟩, ⟨#[102]⟩, 1, 3⟩ = (0, 4) := by kernel_rfl
theorem begun_all (A c a1 a2 a3 a4 a5 a6 b1 b2 b3 b4 b5 b6 c1 c2 c3 c4 c5 c6) : allOf (kern A c) (pairL a1 a2 a3 b1 b2 b3 a4 a5 a6 b4 b5 b6) (appM c1 c2 c3 c4 c5 c6) = ([4356, 2], 0) := by kernel_rfl
theorem begun_kern (A c) : krnErr (kern A c) = 0 := by kernel_rfl


set_option maxHeartbeats 4000000 in
set_option maxRecDepth 100000 in
theorem resolveBegun_any (w : World) : Calls Tryz.prog 60 #[] w fun e w' => e = .returned (.bool true) ∧ Below w.heap.size w w' := by
  go_enter Tryz.func60, Tryz.ntmps60
  go_wp2_with fail
  refine (kernel_any _).mono ?_; rintro e w1 ⟨⟨A1, c1, rfl, hk1⟩, hb1⟩
  go_wp2_with fail
  refine (pair_any _).mono ?_; rintro e w2 ⟨⟨A2, c2, a1, a2, a3, a4, a5, a6, b1, b2, b3, b4, b5, b6, rfl, hl2⟩, hb2⟩
  go_wp2_with fail
  refine (app_any _).mono ?_; rintro e w3 ⟨⟨m1, m2, m3, m4, m5, m6, rfl, hm3⟩, hb3⟩
  have hs1 := hb1.size
  have hs2 := hb2.size
  have hs3 := hb3.size
  obtain ⟨ad, e0, hab, i0, i1, i2, i3⟩ := imp_at hm3.im.1 (Below.refl _ _) 0 (by simp [appM])
  have e0' : m2 = some ad := e0
  subst e0'
  have i0' : w3.cell? ad = some (.string ⟨#[108, 105, 98]⟩) := by simpa [appM, Addr.add] using i0
  have i1' : w3.cell? ⟨ad.block, ad.off + 1, none⟩ = some (.string ⟨#[102]⟩) := by simpa [appM, Addr.add] using i1
  have i2' : w3.cell? ⟨ad.block, ad.off + 2, none⟩ = some (.int .i64 1) := by simpa [appM, Addr.add] using i2
  have i3' : w3.cell? ⟨ad.block, ad.off + 3, none⟩ = some (.int .i64 1) := by simpa [appM, Addr.add] using i3
  clear i0 i1 i2 i3 e0
  have hav : (appM m1 (some ad) m3 m4 m5 m6).v = .agg #[.string ⟨#[97, 112, 112]⟩, .int .i64 0, .int .i64 0, .string ⟨#[46, 46, 46, 46, 46, 46, 46, 46]⟩, .slice m1 0 m4, .slice (some ad) 2 m5, .slice m3 2 m6] := rfl
  have hfd : ∀ w : World, (Instr.field 75 (.agg #[.string ⟨#[97, 112, 112]⟩, .int .i64 0, .int .i64 0, .string ⟨#[46, 46, 46, 46, 46, 46, 46, 46]⟩, .slice m1 0 m4, .slice (some ad) 2 m5, .slice m3 2 m6]) 5).run Tryz.prog w = .ok (.slice (some ad) 2 m5) w := fun _ => by kernel_rfl
  have f1 := Lib.hid (Find_any (kern A1 c1) A2 c2 (pairL a1 a2 a3 b1 b2 b3 a4 a5 a6 b4 b5 b6) ⟨⟨#[108, 105, 98]⟩, ⟨#[102]⟩, 1, 1⟩ w3 ((hk1.below hb2).below hb3) (hl2.below hb3) (by unfold big; decide))
  rw [begun_find1] at f1
  go_wp2_with fail
  refine (f1.out).mono ?_; rintro e w4 ⟨rfl, hb4⟩
  clear hav hfd i0' i1' i2' i3' f1
  go_wp2_with fail
  refine (kernel_any _).mono ?_; rintro e w5 ⟨⟨A5, c5, rfl, hk5⟩, hb5⟩
  go_wp2_with fail
  refine (pair_any _).mono ?_; rintro e w6 ⟨⟨A6, c6, d1, d2, d3, d4, d5, d6, e1, e2, e3, e4, e5, e6, rfl, hl6⟩, hb6⟩
  go_wp2_with fail
  refine (app_any _).mono ?_; rintro e w7 ⟨⟨n1, n2, n3, n4, n5, n6, rfl, hm7⟩, hb7⟩
  have hs5 := hb5.size
  have hs6 := hb6.size
  have hs7 := hb7.size
  have f2 := Lib.hid (All_any (kern A5 c5) A6 c6 (pairL d1 d2 d3 e1 e2 e3 d4 d5 d6 e4 e5 e6) (appM n1 n2 n3 n4 n5 n6) w7 ((hk5.below hb6).below hb7) (hl6.below hb7) hm7)
  rw [begun_all] at f2
  go_wp2_with fail
  refine (f2.out).mono ?_; rintro e w8 ⟨⟨A8, c8, rfl, hr8⟩, hb8⟩
  clear f2
  go_wp2_with fail
  refine (kernel_any _).mono ?_; rintro e w9 ⟨⟨A9, c9, rfl, hk9⟩, hb9⟩
  go_wp2_with fail
  refine (pair_any _).mono ?_; rintro e w10 ⟨⟨A10, c10, g1, g2, g3, g4, g5, g6, h1, h2, h3, h4, h5, h6, rfl, hl10⟩, hb10⟩
  have hs8 := hb8.size
  have hs9 := hb9.size
  have hs10 := hb10.size
  have f3 := Lib.hid (Find_any (kern A9 c9) A10 c10 (pairL g1 g2 g3 h1 h2 h3 g4 g5 g6 h4 h5 h6) ⟨⟨#[108, 105, 98]⟩, ⟨#[102]⟩, 1, 3⟩ w10 (hk9.below hb10) hl10 (by unfold big; decide))
  rw [begun_find2] at f3
  go_wp2_with fail
  refine (f3.out).mono ?_; rintro e w11 ⟨rfl, hb11⟩
  clear f3
  go_wp2_with fail
  refine (kernel_any _).mono ?_; rintro e w12 ⟨⟨A12, c12, rfl, hk12⟩, hb12⟩
  have f4 := Lib.hid (Kernel_any (kern A12 c12) w12 hk12)
  rw [begun_kern] at f4
  go_wp2_with fail
  refine (f4.out).mono ?_; rintro e w13 ⟨rfl, hb13⟩
  have hs11 := hb11.size
  have hs12 := hb12.size
  have hs13 := hb13.size
  clear f4
  have hbA : Below w8.heap.size w8 w13 := (hb9.trans ((hb10.mono hs9).trans ((hb11.mono (by omega)).trans ((hb12.mono (by omega)).trans (hb13.mono (by omega))))))
  have hbB := fun o => (Below.refl w13.heap.size w13).alloc (Nat.le_refl _) o
  have f5 := Lib.hid (SameInts_any A8 (some ⟨w13.heap.size, 0, none⟩) c8 2 [4356, 2] [4356, 2] (w13.alloc (.cells #[.int .i64 4356, .int .i64 2] 3)) (hr8.below (hbA.trans ((hbB _).mono (by omega)))) (row_block (enc := fun n => [iv n]) (k := 1) (fun _ => rfl) (heap_alloc_new w13 _) rfl) (by unfold big; simp) (by unfold big; simp))
  go_wp2_with (go_at_call 131; refine (f5.out).mono ?_; rintro e w14 ⟨rfl, hb14⟩)
  go_ret
  refine ⟨by simp, ?_⟩
  have b8 : Below w.heap.size w w8 := hb1.trans ((hb2.mono hs1).trans ((hb3.mono (by omega)).trans ((hb4.mono (by omega)).trans ((hb5.mono (by have := hb4.size; omega)).trans ((hb6.mono (by have := hb4.size; omega)).trans ((hb7.mono (by have := hb4.size; omega)).trans (hb8.mono (by have := hb4.size; omega))))))))
  exact b8.trans ((hbA.mono b8.size).trans (((hbB _).mono (by have := b8.size; omega)).trans (hb14.mono (by have := b8.size; simp; omega))))

end Go.Proofs.YtogckcjcebckgaaGreat
end

section
/- graphBegun returns true. -/
namespace Go.Proofs.YtogckcjcebckgaaGreat
open Go.RowKit
open Gs (Tx)

abbrev pairG (a1 a2 a3 b1 b2 b3 : Option Addr) (a4 a5 a6 b4 b5 b6 : Nat) : List Plc := [⟨appM a1 a2 a3 a4 a5 a6, 1⟩, ⟨libM b1 b2 b3 b4 b5 b6, 4⟩]
abbrev appT : Tx := [97, 112, 112]
abbrev libT : Tx := [108, 105, 98]
section
variable (a1 a2 a3 b1 b2 b3 : Option Addr) (a4 a5 a6 b4 b5 b6 : Nat)
theorem begun_ms : Gs.msort (txs (pairG a1 a2 a3 b1 b2 b3 a4 a5 a6 b4 b5 b6)) = [appT, libT] := by
  have e : txs (pairG a1 a2 a3 b1 b2 b3 a4 a5 a6 b4 b5 b6) = [appT, libT] := rfl
  rw [e]
  exact (Gs.eq_msort (List.Perm.refl _) (by unfold Gs.sorted; decide)).symm
theorem begun_gr : grErr (pairG a1 a2 a3 b1 b2 b3 a4 a5 a6 b4 b5 b6) = 0 := by
  unfold grErr
  have h1 : modsAll anyQ (pairG a1 a2 a3 b1 b2 b3 a4 a5 a6 b4 b5 b6) = 0 := by kernel_rfl
  have h2 : isTwice (pairG a1 a2 a3 b1 b2 b3 a4 a5 a6 b4 b5 b6) = false := by
    cases e : isTwice (pairG a1 a2 a3 b1 b2 b3 a4 a5 a6 b4 b5 b6)
    · rfl
    · rw [twice_nodup] at e
      exact absurd (show [appT, libT].Nodup by decide) e
  rw [h1, h2]; rfl
theorem begun_of1 : ofErr (pairG a1 a2 a3 b1 b2 b3 a4 a5 a6 b4 b5 b6) ⟨#[97, 112, 112]⟩ = 0 := by
  unfold ofErr; rw [begun_gr]; kernel_rfl
theorem begun_of2 : ofErr (pairG a1 a2 a3 b1 b2 b3 a4 a5 a6 b4 b5 b6) ⟨#[108, 105, 98]⟩ = 0 := by
  unfold ofErr; rw [begun_gr]; kernel_rfl
theorem begun_needs : needsT (pairG a1 a2 a3 b1 b2 b3 a4 a5 a6 b4 b5 b6) ⟨#[97, 112, 112]⟩ = [libT] := by
  unfold needsT reachT; rw [begun_of1, begun_ms]; kernel_rfl
theorem begun_users : usersT (pairG a1 a2 a3 b1 b2 b3 a4 a5 a6 b4 b5 b6) ⟨#[108, 105, 98]⟩ = [appT] := by
  unfold usersT reachT; rw [begun_of2, begun_ms]; kernel_rfl
theorem begun_sorted : sortedT (pairG a1 a2 a3 b1 b2 b3 a4 a5 a6 b4 b5 b6) = some [libT, appT] := by
  unfold sortedT; rw [begun_ms]; kernel_rfl
theorem begun_oerr : orderErr (pairG a1 a2 a3 b1 b2 b3 a4 a5 a6 b4 b5 b6) = 0 := by
  unfold orderErr; rw [begun_gr, begun_sorted]; rfl
theorem begun_order : orderT (pairG a1 a2 a3 b1 b2 b3 a4 a5 a6 b4 b5 b6) = [libT, appT] := by
  unfold orderT; rw [begun_oerr, begun_sorted]; rfl
end

theorem same_lit (A : Option Addr) (c n m : Nat) (L : List Tx) (hm : L.length = m) (cs : Array Value) (hcs : cs.toList = (L.map bs).flatMap strCells) (W : World) (h : TxRow W A L) (hl : L.length ≤ big) :
    Calls Tryz.prog 36 #[.slice A m c, .slice (some ⟨W.heap.size, 0, none⟩) m n] (W.alloc (.cells cs 9)) fun e w' => e = .returned (.bool true) ∧ Below W.heap.size W w' := by
  subst hm
  have hb := (Below.refl W.heap.size W).alloc (Nat.le_refl _) (.cells cs 9)
  have := SameTexts_any A (some ⟨W.heap.size, 0, none⟩) c n L L (W.alloc (.cells cs 9)) (h.below hb) (row_block (enc := strCells) (k := 1) (fun _ => rfl) (heap_alloc_new W _) hcs) hl hl
  refine this.mono ?_
  rintro e w' ⟨he, hb'⟩
  exact ⟨by rw [he]; simp, hb.trans (hb'.mono hb.size)⟩

set_option maxHeartbeats 4000000 in
set_option maxRecDepth 100000 in
theorem graphBegun_any (w : World) : Calls Tryz.prog 61 #[] w fun e w' => e = .returned (.bool true) ∧ Below w.heap.size w w' := by
  go_enter Tryz.func61, Tryz.ntmps61
  go_wp2_with fail
  refine (pair_any _).mono ?_; rintro e w2 ⟨⟨A2, c2, a1, a2, a3, a4, a5, a6, b1, b2, b3, b4, b5, b6, rfl, hl2⟩, hb2⟩
  have f1 := Lib.hid (Needs_any A2 c2 (pairG a1 a2 a3 b1 b2 b3 a4 a5 a6 b4 b5 b6) ⟨#[97, 112, 112]⟩ w2 hl2)
  rw [begun_needs, begun_of1] at f1
  have HB2 := Lib.hid hb2
  clear hl2 hb2
  go_wp2_with fail
  refine (f1.out).mono ?_; rintro e w3 ⟨⟨v3, rfl, ht3⟩, hb3⟩
  obtain ⟨A3, c3, rfl, hr3⟩ := ht3.form
  have HR3 := Lib.hid hr3
  have HB3 := Lib.hid (HB2.out.trans (hb3.mono HB2.out.size))
  clear ht3 hr3 hb3 f1
  go_wp2_with fail
  refine (pair_any _).mono ?_; rintro e w4 ⟨⟨A4, c4, d1, d2, d3, d4, d5, d6, e1, e2, e3, e4, e5, e6, rfl, hl4⟩, hb4⟩
  have f2 := Lib.hid (Users_any A4 c4 (pairG d1 d2 d3 e1 e2 e3 d4 d5 d6 e4 e5 e6) ⟨#[108, 105, 98]⟩ w4 hl4)
  rw [begun_users, begun_of2] at f2
  have HB4 := Lib.hid hb4
  clear hl4 hb4
  go_wp2_with fail
  refine (f2.out).mono ?_; rintro e w5 ⟨⟨v5, rfl, ht5⟩, hb5⟩
  obtain ⟨A5, c5, rfl, hr5⟩ := ht5.form
  have HR5 := Lib.hid hr5
  have HB5 := Lib.hid (HB4.out.trans (hb5.mono HB4.out.size))
  clear ht5 hr5 hb5 f2
  go_wp2_with fail
  refine (pair_any _).mono ?_; rintro e w6 ⟨⟨A6, c6, g1, g2, g3, g4, g5, g6, h1, h2, h3, h4, h5, h6, rfl, hl6⟩, hb6⟩
  have f3 := Lib.hid (Order_any A6 c6 (pairG g1 g2 g3 h1 h2 h3 g4 g5 g6 h4 h5 h6) w6 hl6)
  rw [begun_order, begun_oerr] at f3
  have HB6 := Lib.hid hb6
  clear hl6 hb6
  go_wp2_with fail
  refine (f3.out).mono ?_; rintro e w7 ⟨⟨v7, rfl, ht7⟩, hb7⟩
  obtain ⟨A7, c7, rfl, hr7⟩ := ht7.form
  have HR7 := Lib.hid hr7
  have HB7 := Lib.hid (HB6.out.trans (hb7.mono HB6.out.size))
  clear ht7 hr7 hb7 f3
  have s1 := Lib.hid (fun W (hb : Below w3.heap.size w3 W) => same_lit A3 c3 1 1 [libT] rfl #[.string ⟨#[108, 105, 98]⟩] rfl W (HR3.out.below hb) (by unfold big; decide))
  have s2 := Lib.hid (fun W (hb : Below w5.heap.size w5 W) => same_lit A5 c5 1 1 [appT] rfl #[.string ⟨#[97, 112, 112]⟩] rfl W (HR5.out.below hb) (by unfold big; decide))
  have s3 := Lib.hid (fun W (hb : Below w7.heap.size w7 W) => same_lit A7 c7 2 2 [libT, appT] rfl #[.string ⟨#[108, 105, 98]⟩, .string ⟨#[97, 112, 112]⟩] rfl W (HR7.out.below hb) (by unfold big; decide))
  have z3 := HB3.out.size
  have z5 := HB5.out.size
  have z7 := HB7.out.size
  go_wp2_with fail
  (with_reducible refine (s1.out _ (HB5.out.trans (HB7.out.mono HB5.out.size))).mono ?_); rintro e w8 ⟨rfl, hb8⟩
  have HB8 := Lib.hid hb8
  clear hb8 s1
  go_wp2_with fail
  (with_reducible refine (s2.out _ (HB7.out.trans (HB8.out.mono HB7.out.size))).mono ?_); rintro e w9 ⟨rfl, hb9⟩
  have HB9 := Lib.hid hb9
  clear hb9 s2
  go_wp2_with fail
  (with_reducible refine (s3.out _ (HB8.out.trans (HB9.out.mono HB8.out.size))).mono ?_); rintro e w10 ⟨rfl, hb10⟩
  have HB10 := Lib.hid hb10
  clear hb10 s3
  go_wp2_with fail
  go_ret
  refine ⟨rfl, ?_⟩
  have z8 := HB8.out.size
  have z9 := HB9.out.size
  exact HB3.out.trans ((HB5.out.mono z3).trans ((HB7.out.mono (by omega)).trans ((HB8.out.mono (by omega)).trans ((HB9.out.mono (by omega)).trans (HB10.out.mono (by omega))))))

end Go.Proofs.YtogckcjcebckgaaGreat
end

section
/- Runs that are free (chapter F): region.Runs, its closure; region.Free. -/
namespace Go.Proofs.YtogckcjcebckgaaGreat
open Go.RowKit

def Run.cells (r : Run) : List Value := [.int .i64 r.first, .int .i64 r.many]
abbrev Run.v (r : Run) : Value := .agg #[.int .i64 r.first, .int .i64 r.many]
abbrev zeroRun : Value := .agg #[.int .i64 0, .int .i64 0]
theorem Tryz.infoRun : (Tryz.prog.info? 82).map (fun i => (i.zero, i.size, i.bytes)) = some (some zeroRun, 2, 16) := by kernel_rfl
/-- a slice of runs that lies in blocks of the call's own, from block base on -/
def RunOwn (w : World) (base : Nat) (v : Value) (l : List Run) : Prop := w.ownsRow base 82 2 v l.length (l.flatMap Run.cells)
theorem run_one (l : List Run) : ∀ u ∈ l.flatMap Run.cells, u.oneCell' = true := by
  intro u hu
  obtain ⟨x, _, hx⟩ := List.mem_flatMap.1 hu
  simp only [Run.cells, List.mem_cons, List.not_mem_nil, or_false] at hx
  rcases hx with rfl | rfl <;> rfl
abbrev RunRow (w : World) (A : Option Addr) (l : List Run) : Prop := Row Run.cells 2 w A l
theorem own_form {w : World} {base size n : Nat} {e : TypeId} {v : Value} {xs : List Value} (h : w.ownsRow base e size v n xs) : ∃ (A : Option Addr) (c : Nat), v = .slice A n c := by
  rcases h.2 with ⟨rfl, rfl⟩ | ⟨g', cap, cur, rfl, _⟩
  · exact ⟨_, _, rfl⟩
  · exact ⟨_, _, rfl⟩
theorem own_low {w : World} {base size n : Nat} {e : TypeId} {v : Value} {xs : List Value} (h : w.ownsRow base e size v n xs) : ∀ g, v.ownBlock = some g → base ≤ g := fun g hg => (h.lt g hg).1
theorem own_bel {w w' : World} {base size n B : Nat} {e : TypeId} {v : Value} {xs : List Value} (h : w.ownsRow base e size v n xs) (hb : Below B w w') (hB : w.heap.size ≤ B) : w'.ownsRow base e size v n xs := by
  refine ⟨h.1, ?_⟩
  rcases h.2 with h0 | ⟨g, cap, cur, e1, e2, e3, e4⟩
  · exact .inl h0
  · refine .inr ⟨g, cap, cur, e1, e2, ?_, e4⟩
    have : g < w.heap.size := by
      rcases Nat.lt_or_ge g w.heap.size with hlt | hge
      · exact hlt
      · rw [Array.getElem?_eq_none hge] at e3; cases e3
    rw [hb.block g (by omega)]; exact e3
theorem RunOwn.row {w : World} {base : Nat} {v : Value} {l : List Run} (h : RunOwn w base v l) : ∃ (A : Option Addr) (c : Nat), v = .slice A l.length c ∧ RunRow w A l := by
  obtain ⟨A, c, rfl⟩ := own_form h
  exact ⟨A, c, rfl, Reads.of_own h⟩
theorem RunOwn.nil (w : World) (base : Nat) : RunOwn w base (.slice none 0 0) [] := World.ownsRow_nil _ _ _ _
theorem append_Run (W : World) {ops : Array Oper} {rest : List Oper} {o : Oper} {a : Act} {Q : Exit → Act → World → Prop} (hgd : o.guard = none) (s x : Operand)
    (ho : o.op = .call { callee := .builtin .append, args := #[s, x], argTypes := #[78, 78] }) (base : Nat) (v : Value) (l : List Run) (r : Run) (hs : a.eval s = v)
    (hx : a.eval x = .slice (some ⟨W.heap.size, 0, none⟩) 1 1) (hown : RunOwn W base v l) (hl : l.length ≤ 1000000) (hbase : base ≤ W.heap.size)
    (h : ∀ v' w', RunOwn w' base v' (l ++ [r]) → (W.alloc (.cells #[.int .i64 r.first, .int .i64 r.many] 82)).grownBy w' v.ownBlock → wpList Tryz.prog ops Q rest (a.put o.dst v') w') : wpList Tryz.prog ops Q (o :: rest) a (W.alloc (.cells #[.int .i64 r.first, .int .i64 r.many] 82)) := by
  obtain ⟨i0, hi, hz0, hz1, hz2⟩ := info_parts Tryz.infoRun
  refine wpList_append_own_at (W.alloc (.cells #[.int .i64 r.first, .int .i64 r.many] 82)) hgd s x 78 ho base 82 i0 zeroRun 2 16 Tryz.underlying78 hi hz0 hz1 hz2 rfl (by decide) v l.length (l.flatMap Run.cells) hs (hown.alloc _) ⟨W.heap.size, 0, none⟩ 1 1 r.cells hx rfl
    ?_ (by intro u hu; simp only [Run.cells, List.mem_cons, List.not_mem_nil, or_false] at hu; rcases hu with rfl | rfl <;> rfl) (by simp only [maxLen]; omega) (by omega) (by simp; omega) ?_
  · intro j u hu
    match j, hu with
    | 0, hu => simp only [Run.cells, List.getElem?_cons_zero, Option.some.injEq] at hu; subst hu; rw [add_zero_, World.cell?_alloc_new]; rfl
    | 1, hu => simp only [Run.cells, List.getElem?_cons_succ, List.getElem?_cons_zero, Option.some.injEq] at hu; subst hu; rw [add_pos_ _ _ (by omega)]; simp only [Nat.zero_add]; rw [World.cell?_alloc_new]; rfl
    | j + 2, hu => simp [Run.cells] at hu
  intro v' w1 hown' hgrow _ _
  refine h v' w1 ?_ hgrow
  unfold RunOwn
  simpa using hown'

/-- but for block b and a slice's own block nothing has turned -/
structure Gapped (w w' : World) (b : Nat) (row : Option Nat) : Prop where
  os : w'.os = w.os
  tape : w'.tape = w.tape
  output : w'.output = w.output
  size : w.heap.size ≤ w'.heap.size
  block : ∀ k, k < w.heap.size → k ≠ b → some k ≠ row → w'.heap[k]? = w.heap[k]?

set_option maxHeartbeats 2000000 in
set_option maxRecDepth 100000 in
theorem gap_any (b : Nat) (at_ e : Int) (v : Value) (l : List Run) (w : World) (hO : Boxed w b 78 v) (hA : Boxed w (b + 1) 3 (.int .i64 at_)) (hv : RunOwn w (b + 2) v l) (hl : l.length ≤ 100) (h0 : 0 ≤ at_) (h1 : at_ ≤ 16) (h2 : 0 ≤ e) (h3 : e ≤ 16) :
    Calls Tryz.prog 183 #[.int .i64 e, .pointer (some ⟨b + 1, 0, none⟩), .pointer (some ⟨b, 0, none⟩)] w fun e' w' => (∃ u, e' = .returned u) ∧
      ∃ v', Boxed w' b 78 v' ∧ RunOwn w' (b + 2) v' (l ++ gapRun at_ e) ∧ Gapped w w' b v.ownBlock := by
  have a0 := hA.cell
  have a1 := hA.frozen
  have o0 := hO.cell
  have o1 := hO.frozen
  have hlt := hA.lt
  have HO := Lib.hid hO
  have HV := Lib.hid hv
  obtain ⟨A, c, rfl⟩ := own_form hv
  have hrow := hv.lt
  have q0 : IntKind.i64.wrap (e - at_) = e - at_ := IntWalk.i64_in _ (by omega)
  by_cases t0 : at_ < e
  · have HG := Lib.hid (show gapRun at_ e = [⟨at_, e - at_⟩] by unfold gapRun; rw [if_pos t0])
    have HR := Lib.hid hrow
    clear hO hA hv hrow
    go_enter Tryz.func183, Tryz.ntmps183
    go_wp2_with (at_builtin; refine append_Run w rfl _ _ rfl (b + 2) (.slice A l.length c) l ⟨at_, e - at_⟩ rfl rfl HV.out (by omega) (by omega) ?_; intro v' w1 hown1 hg1; obtain ⟨g, cap, rfl⟩ := ownsRow_succ (show w1.ownsRow (b + 2) _ 2 v' (l.length + 1) _ by have h := hown1; unfold RunOwn at h; simpa using h); have hne : some b ≠ (Value.slice A l.length c).ownBlock := (fun h => by have := (HR.out b h.symm).1; omega); have hO1 := (HO.out.alloc (.cells #[.int .i64 at_, .int .i64 (e - at_)] 82)).kept hg1 hne; have p0 := hO1.cell; have p1 := hO1.frozen; have hlt1 := hO1.lt)
    go_end0
    refine ⟨⟨_, rfl⟩, _, hO1.set _, ?_, ?_⟩
    · rw [HG.out]
      exact ownsRow_setCell_below hown1 (by simp) _
    · refine ⟨hg1.os, hg1.tape, hg1.output, ?_, fun k hk hkb hkr => ?_⟩
      · have := hg1.size; simp at this ⊢; omega
      · rw [Below.heap_setCell _ _ _ _ hkb, hg1.block k (by simp; omega) hkr, Below.heap_alloc _ _ _ hk]
  · have HG := Lib.hid (show gapRun at_ e = [] by unfold gapRun; rw [if_neg t0])
    have t0' : decide (at_ < e) = false := by simp; omega
    clear hO hA hv hrow t0
    go_enter Tryz.func183, Tryz.ntmps183
    go_wp2_with fail
    go_end0
    refine ⟨⟨_, rfl⟩, _, HO.out, ?_, ⟨rfl, rfl, rfl, Nat.le_refl _, fun k _ _ _ => rfl⟩⟩
    rw [HG.out, List.append_nil]; exact HV.out


theorem runsFrom_length : ∀ (l : List Plc) (a : Int), (runsFrom a l).length ≤ l.length + 1
  | [], a => by unfold runsFrom gapRun; split <;> simp
  | x :: l, a => by
    have h1 := runsFrom_length l (endOf x)
    have h2 : (gapRun a x.first).length ≤ 1 := by unfold gapRun; split <;> simp
    rw [runsFrom, List.length_append, List.length_cons]
    omega
theorem runs_next {l : List Plc} {j : Nat} (h : j < l.length) (a : Int) : runsFrom a (l.drop j) = gapRun a l[j].first ++ runsFrom (endOf l[j]) (l.drop (j + 1)) := by
  rw [List.drop_eq_getElem_cons h]; rfl
theorem runs_end {l : List Plc} {j : Nat} (h : ¬ j < l.length) (a : Int) : runsFrom a (l.drop j) = gapRun a 16 := by
  rw [List.drop_eq_nil_of_le (by omega)]; rfl
theorem Gapped.below {w w' : World} {b B : Nat} {row : Option Nat} (h : Gapped w w' b row) (hb : B ≤ b) (hB : B ≤ w.heap.size) (hr : ∀ g, row = some g → B ≤ g) : Below B w w' :=
  ⟨h.os, h.tape, h.output, h.size, fun k hk => h.block k (by omega) (by omega) (fun e => by have := hr k e.symm; omega)⟩
theorem Gapped.cell {w w' : World} {b : Nat} {row : Option Nat} (h : Gapped w w' b row) {p : Addr} (h1 : p.block < w.heap.size) (h2 : p.block ≠ b) (h3 : some p.block ≠ row) : w'.cell? p = w.cell? p := World.cell?_of_block (h.block _ h1 h2 h3)

theorem Gapped.at_ {w w' : World} {b : Nat} {row : Option Nat} (h : Gapped w w' b row) (c o : Nat) (h1 : c < w.heap.size) (h2 : c ≠ b) (h3 : some c ≠ row) : w'.cell? ⟨c, o, none⟩ = w.cell? ⟨c, o, none⟩ := h.cell h1 h2 h3
theorem Gapped.box {w w' : World} {b b' : Nat} {t : TypeId} {v : Value} {row : Option Nat} (h : Gapped w w' b row) (hx : Boxed w b' t v) (h2 : b' ≠ b) (h3 : some b' ≠ row) : Boxed w' b' t v := (h.block _ hx.lt h2 h3).trans hx
theorem box_below {w w' : World} {b B : Nat} {t : TypeId} {v : Value} (hx : Boxed w b t v) (h : Below B w w') (hb : b < B) : Boxed w' b t v := (h.block _ hb).trans hx

set_option maxHeartbeats 4000000 in
set_option maxRecDepth 100000 in
theorem Runs_any (A : Option Addr) (c : Nat) (l : List Plc) (w : World) (h : PlsOk w A l) (hr : regErr l = 0) :
    Calls Tryz.prog 114 #[.slice A l.length c] w fun e w' => (∃ (A' : Option Addr) (c' : Nat), e = .returned (.slice A' (runsOf l).length c') ∧ RunRow w' A' (runsOf l)) ∧ Below w.heap.size w w' := by
  obtain ⟨h8, hall, h16⟩ := reg_row hr
  have HALL := Lib.hid (show ∀ x ∈ l, x.m.text.size ≤ 256 ∧ 0 ≤ x.first ∧ x.first ≤ 16 ∧ 0 ≤ endOf x ∧ endOf x ≤ 16 from fun x hx => by
    obtain ⟨h1, h2⟩ := hall x hx
    have h3 := many_ok h1
    simp only [regQ, Bool.and_eq_true, decide_eq_true_eq] at h2
    unfold endOf
    exact ⟨(modErr_facts h1).2.2.1, by omega⟩)
  have HP := Lib.hid h
  have HS := Lib.hid (show (runsOf l).length ≤ 9 by have := runsFrom_length l 0; unfold runsOf; omega)
  obtain ⟨R, hR⟩ : ∃ R, R = runsOf l := ⟨_, rfl⟩
  rw [← hR] at HS ⊢
  have HR := Lib.hid hR
  clear h hr hall h16 hR
  obtain ⟨w0, hw0⟩ : ∃ w0, w0 = (w.alloc (.cells #[.slice none 0 0] 78)).alloc (.cells #[.int .i64 0] 3) := ⟨_, rfl⟩
  have hz0 : w0.heap.size = w.heap.size + 1 + 1 := by subst hw0; simp
  have hO0 : Boxed w0 w.heap.size 78 (.slice none 0 0) := by subst hw0; exact (Boxed.new _ _ _).alloc _
  have hA0 : Boxed w0 (w.heap.size + 1) 3 (.int .i64 0) := by
    subst hw0
    have := Boxed.new (w.alloc (.cells #[.slice none 0 0] 78)) 3 (.int .i64 0)
    simpa using this
  have hB0 : Below w.heap.size w w0 := by subst hw0; exact ((Below.refl _ _).alloc (Nat.le_refl _) _).alloc (by simp) _
  subst hw0
  have HO0 := Lib.hid hO0
  have HA0 := Lib.hid hA0
  have HB0 := Lib.hid hB0
  clear hO0 hA0 hB0 hz0
  go_enter Tryz.func114, Tryz.ntmps114
  go_wp2_with fail
  go_loopw [11] (fun i wr => ∃ (j : Nat) (a : Int) (v : Value) (pre : List Run), j ≤ l.length ∧ i = .int .i64 j ∧ Boxed wr w.heap.size 78 v ∧ Boxed wr (w.heap.size + 1) 3 (.int .i64 a) ∧ RunOwn wr (w.heap.size + 2) v pre ∧ pre ++ runsFrom a (l.drop j) = R ∧ 0 ≤ a ∧ a ≤ 16 ∧ Below w.heap.size w wr) (fun i _ => l.length - (intOf i).toNat)
  case atStart => exact ⟨0, 0, _, [], by omega, rfl, HO0.out, HA0.out, RunOwn.nil _ _, HR.out.symm, by omega, by omega, HB0.out⟩
  case round =>
    obtain ⟨j, a, v, pre, hj, rfl, hO, hA, hv, hE, ha0, ha1, hb⟩ := hrel
    have HE := Lib.hid hE
    have HB := Lib.hid hb
    have HO := Lib.hid hO
    have HA := Lib.hid hA
    have HV := Lib.hid hv
    have hpl : pre.length ≤ 9 := by have h1 := HS.out; rw [← hE, List.length_append] at h1; omega
    have hA1 := hA.lt
    obtain ⟨vA, vc, rfl⟩ := own_form hv
    have HL := Lib.hid hv.lt
    clear hE hO hA hv
    by_cases hlt : j < l.length
    · have hlt' : (j : Int) < l.length := by omega
      obtain ⟨ad, rfl, hab, h0, h1, h2, h3, h4, h5, h6, h7⟩ := plc_at HP.out.row hb j hlt
      have hwz := hb.size
      have e1 := Lib.hid ((congrArg (pre ++ ·) (runs_next hlt a).symm).trans HE.out)
      obtain ⟨f1, f2, f3, f4, f5⟩ := HALL.out (l[j]'hlt) (List.getElem_mem _)
      obtain ⟨y, hy⟩ : ∃ y, y = l[j]'hlt := ⟨_, rfl⟩
      rw [← hy] at f1 f2 f3 f4 f5 h0 h1 h2 h3 h4 h5 h6 h7 e1
      clear hy
      obtain ⟨wx, hwx⟩ : ∃ wx, wx = wr.alloc (.cells #[.string y.m.name, .int .i64 y.m.major, .int .i64 y.m.minor, .string y.m.text, .slice y.m.eA y.m.ex.length y.m.eC, .slice y.m.iA y.m.im.length y.m.iC, .slice y.m.pA y.m.pa.length y.m.pC, .int .i64 y.first] 77) := ⟨_, rfl⟩
      obtain ⟨x0, x1, x2, x3, x4, x5, x6, x7, hzx, hbx⟩ := box8 hwx
      have hwx' := hwx.symm
      have cG := Lib.hid (gap_any w.heap.size a y.first _ pre wx (hwx ▸ HO.out.alloc _) (hwx ▸ HA.out.alloc _) (hwx ▸ HV.out.alloc _) (by omega) ha0 ha1 f2 f3)
      have cE := Lib.hid (fun W => End_any y W f1 f2 f3)
      have HAX := Lib.hid (show Boxed wx (w.heap.size + 1) 3 (.int .i64 a) from hwx ▸ HA.out.alloc _)
      have HBX := Lib.hid (show Below w.heap.size w wx from hb.trans (hbx.mono hwz))
      obtain ⟨N, hN⟩ : ∃ N, N = endOf y := ⟨_, rfl⟩
      rw [← hN] at f4 f5 cE e1
      clear hwx hbx hN f1 f2 f3
      go_wp2_with (first | (go_at_call 183; refine (cG.out).mono ?_; rintro e w2 ⟨⟨u, rfl⟩, v', hO2, hv2, hg2⟩; have hz2 := hg2.size; have hne : some wr.heap.size ≠ (Value.slice vA pre.length vc).ownBlock := (fun h => by have := (HL.out wr.heap.size h.symm).2; omega); have hne2 : some (w.heap.size + 1) ≠ (Value.slice vA pre.length vc).ownBlock := (fun h => by have := (HL.out (w.heap.size + 1) h.symm).1; omega); have hA2 := Lib.hid (hg2.box HAX.out (by omega) hne2); have k0 := (hg2.at_ wr.heap.size 0 (by omega) (by omega) hne).trans x0; have k1 := (hg2.at_ wr.heap.size 1 (by omega) (by omega) hne).trans x1; have k2 := (hg2.at_ wr.heap.size 2 (by omega) (by omega) hne).trans x2; have k3 := (hg2.at_ wr.heap.size 3 (by omega) (by omega) hne).trans x3; have k4 := (hg2.at_ wr.heap.size 4 (by omega) (by omega) hne).trans x4; have k5 := (hg2.at_ wr.heap.size 5 (by omega) (by omega) hne).trans x5; have k6 := (hg2.at_ wr.heap.size 6 (by omega) (by omega) hne).trans x6; have k7 := (hg2.at_ wr.heap.size 7 (by omega) (by omega) hne).trans x7; have HG2 := Lib.hid hg2) | (go_at_call 100; refine (cE.out _).mono ?_; rintro e w3 ⟨rfl, hb3⟩; have hz3 := hb3.size; have hA3 := box_below hA2.out hb3 hA2.out.lt; have p0 := hA3.cell; have p1 := hA3.frozen))
      go_roundw
      case rel =>
        refine ⟨j + 1, N, v', pre ++ gapRun a y.first, by omega, by go_num, (box_below hO2 hb3 hO2.lt).kept (grownBy_setCell' _ _ _) (by simp), hA3.set _, ownsRow_setCell_below (own_bel hv2 hb3 (Nat.le_refl _)) (by simp) _, by rw [List.append_assoc]; exact e1.out, f4, f5, ?_⟩
        exact ((HBX.out.trans (HG2.out.below (Nat.le_refl _) (by omega) (fun g hg => by have := (HL.out g hg).1; omega))).trans (hb3.mono (by omega))).setCell (by simp) _
      case measure => (simp [intOf]; try omega)
    · have e1 := Lib.hid ((congrArg (pre ++ ·) (runs_end hlt a).symm).trans HE.out)
      have cG := Lib.hid (gap_any w.heap.size a 16 _ pre wr HO.out HA.out HV.out (by omega) ha0 ha1 (by omega) (by omega))
      have HLL := Lib.hid (fun g hg => (HL.out g hg).1)
      go_wp2_with (first | (go_at_call 183; refine (cG.out).mono ?_; rintro e w2 ⟨⟨u, rfl⟩, v', hO2, hv2, hg2⟩; have hz2 := hg2.size; have o0 := hO2.cell; have HB2 := Lib.hid (HB.out.trans (hg2.below (Nat.le_refl _) (by omega) (fun g hg => by have := HLL.out g hg; omega))); rw [show pre ++ gapRun a 16 = R from e1.out] at hv2; obtain ⟨A', c', rfl, hrow⟩ := RunOwn.row hv2; have HROW := Lib.hid hrow))
      go_ret
      exact ⟨⟨_, _, rfl, HROW.out⟩, HB2.out⟩


def freeOf (l : List Plc) : List Run := if regErr l ≠ 0 then [] else runsOf l
set_option maxHeartbeats 1000000 in
set_option maxRecDepth 100000 in
theorem Free_any (A : Option Addr) (c : Nat) (l : List Plc) (w : World) (h : PlsOk w A l) :
    Calls Tryz.prog 45 #[.slice A l.length c] w fun e w' => (∃ (A' : Option Addr) (c' : Nat), e = .returned (.tuple #[.slice A' (freeOf l).length c', .int .i64 (regErr l)]) ∧ RunRow w' A' (freeOf l)) ∧ Below w.heap.size w w' := by
  have c1 := Lib.hid (RCheck_any A c l w h)
  obtain ⟨E, hE⟩ : ∃ E, E = regErr l := ⟨_, rfl⟩
  have hF : freeOf l = if E ≠ 0 then [] else runsOf l := by unfold freeOf; rw [hE]
  rw [← hE] at c1 ⊢
  by_cases t0 : E = 0
  · obtain rfl := t0
    have c2 := Lib.hid (fun W (hb : Below w.heap.size w W) => Runs_any A c l W (h.below hb) hE.symm)
    rw [if_neg (by omega)] at hF
    rw [← hF] at c2
    clear hE hF h
    go_enter Tryz.func45, Tryz.ntmps45
    go_wp2_with (first | (go_at_call 113; refine (c1.out).mono ?_; rintro e w2 ⟨rfl, hb2⟩) | (go_at_call 114; refine (c2.out _ hb2).mono ?_; rintro e w3 ⟨⟨A', c', rfl, hrow⟩, hb3⟩; have HR := Lib.hid hrow))
    go_ret2
    exact ⟨⟨_, _, rfl, HR.out⟩, hb2.trans (hb3.mono hb2.size)⟩
  · have t0' : (E != 0) = true := by simp [t0]
    rw [if_pos t0] at hF
    rw [hF]
    clear hE hF h t0
    go_enter Tryz.func45, Tryz.ntmps45
    go_wp2_with (first | (go_at_call 113; refine (c1.out).mono ?_; rintro e w2 ⟨rfl, hb2⟩))
    go_ret2
    exact ⟨⟨none, 0, rfl, Row.nil⟩, hb2⟩

end Go.Proofs.YtogckcjcebckgaaGreat
end

section
/- The first run that has so many (chapter F): region.Fit, region.First. -/
namespace Go.Proofs.YtogckcjcebckgaaGreat
open Go.RowKit

theorem run_at {w w' : World} {A : Option Addr} {l : List Run} (h : Row Run.cells 2 w A l) (hb : Below w.heap.size w w') (i : Nat) (hi : i < l.length) :
    ∃ ad, A = some ad ∧ ad.block < w.heap.size ∧ w'.cell? (ad.add (i * 2)) = some (iv l[i].first) ∧ w'.cell? ⟨(ad.add (i * 2)).block, (ad.add (i * 2)).off + 1, none⟩ = some (iv l[i].many) := by
  obtain ⟨ad, rfl, hab, hc⟩ := Row.at_ (enc := Run.cells) (k := 2) (fun _ => rfl) h i hi
  have e0 := hc 0 _ rfl
  rw [add_zero_] at e0
  have hk : ∀ j u, 0 < j → (Run.cells l[i])[j]? = some u → w'.cell? ⟨(ad.add (i * 2)).block, (ad.add (i * 2)).off + j, none⟩ = some u := fun j u hj hu => by
    rw [← add_pos_ _ _ hj]
    exact (hb.cell (by rw [block_of_add, block_of_add]; exact hab)).trans (hc j u hu)
  exact ⟨ad, rfl, hab, (hb.cell (by rw [block_of_add]; exact hab)).trans e0, hk 1 _ (by omega) rfl⟩

set_option maxHeartbeats 2000000 in
set_option maxRecDepth 100000 in
theorem IdxRun_any (A : Option Addr) (c : Nat) (l : List Run) (g : Nat) (lb : Array Value) (q : Run → Bool) (w : World) (eg : ∀ args w, (callFunc g args).run Tryz.prog w = .ok (.enter g args) w) (h : Row Run.cells 2 w A l) (hl : l.length ≤ big)
    (hq : ∀ x ∈ l, ∀ W, Below w.heap.size w W → Calls Tryz.prog g (#[x.v] ++ lb) W fun e w' => e = .returned (.bool (q x)) ∧ Below W.heap.size W w') :
    Calls Tryz.prog 195 #[.slice A l.length c, .func (.func g) #[] lb] w fun e w' => e = .returned (.int .i64 (idxOf q l)) ∧ Below w.heap.size w w' := by
  unfold big at hl
  have HP := Lib.hid h
  have HQ := Lib.hid hq
  clear h hq
  go_enter Tryz.func195, Tryz.ntmps195
  go_wp2_with fail
  go_loopw [8] (fun i wr => ∃ j : Nat, j ≤ l.length ∧ i = .int .i64 j ∧ (∀ k (hk : k < l.length), k < j → q l[k] = false) ∧ Below w.heap.size w wr) (fun i _ => l.length - (intOf i).toNat)
  case atStart => exact ⟨0, by omega, rfl, by omega, Below.refl _ _⟩
  case round =>
    obtain ⟨j, hj, rfl, hN, hb⟩ := hrel
    have HN := Lib.hid hN
    have HB := Lib.hid hb
    clear hN
    by_cases hlt : j < l.length
    · have hlt' : (j : Int) < l.length := by omega
      obtain ⟨ad, rfl, hab, h0, h1⟩ := run_at HP.out hb j hlt
      have hwz := hb.size
      have c2 := Lib.hid (show Calls Tryz.prog g (#[(l[j]'hlt).v] ++ lb) wr fun e w' => e = .returned (.bool (q (l[j]'hlt))) ∧ Below wr.heap.size wr w' from HQ.out (l[j]'hlt) (List.getElem_mem _) wr HB.out)
      obtain ⟨bq, hbq⟩ : ∃ bq, bq = q (l[j]'hlt) := ⟨_, rfl⟩
      rw [← hbq] at c2
      have HBQ := Lib.hid hbq
      clear hbq hb
      cases bq
      · go_wp2_with (go_at_fn g; refine (c2.out).mono ?_; rintro e w3 ⟨rfl, hb3⟩)
        go_roundw
        case rel => exact ⟨j + 1, by omega, by go_num, fun k hk hkj => by rcases Nat.lt_succ_iff_lt_or_eq.1 hkj with h | rfl; exact HN.out k hk h; exact HBQ.out.symm, HB.out.trans (hb3.mono (by omega))⟩
        case measure => (simp [intOf]; try omega)
      · have e1 := Lib.hid (idxOf_some hlt HN.out HBQ.out.symm)
        go_wp2_with (go_at_fn g; refine (c2.out).mono ?_; rintro e w3 ⟨rfl, hb3⟩)
        go_ret
        exact ⟨ret_int e1.out.symm, HB.out.trans (hb3.mono (by omega))⟩
    · have e1 := Lib.hid (idxOf_none (q := q) (l := l) (fun k hk => HN.out k hk (by omega)))
      go_wp2_with fail
      go_ret
      exact ⟨ret_int e1.out.symm, HB.out⟩

def runQ (many : Int) (r : Run) : Bool := decide (many ≤ r.many)
set_option maxHeartbeats 1000000 in
set_option maxRecDepth 100000 in
theorem fitQ_any (r : Run) (many : Int) (b : Nat) (w : World) (hc : w.cell? ⟨b, 0, none⟩ = some (.int .i64 many)) (hb : b < w.heap.size) :
    Calls Tryz.prog 196 #[r.v, .pointer (some ⟨b, 0, none⟩)] w fun e w' => e = .returned (.bool (runQ many r)) ∧ Below w.heap.size w w' := by
  have hne : b ≠ w.heap.size := by omega
  have e : decide (many ≤ r.many) = runQ many r := rfl
  go_enter Tryz.func196, Tryz.ntmps196
  go_wp2_with fail
  go_ret
  exact ⟨ret_bool (by first | exact e | rfl), (Below.refl _ _).alloc (Nat.le_refl _) _⟩
theorem fit_cases (many : Int) (l : List Run) : (idxOf (runQ many) l = -1 ∧ fitIn many l = -1) ∨ ∃ j, ∃ h : j < l.length, idxOf (runQ many) l = j ∧ fitIn many l = l[j].first := by
  rcases find_cases (runQ many) l with ⟨e1, e2⟩ | ⟨j, hj, e1, e2⟩
  · exact .inl ⟨e1, by unfold fitIn; rw [show (fun r : Run => decide (many ≤ r.many)) = runQ many from rfl, e2]⟩
  · exact .inr ⟨j, hj, e1, by unfold fitIn; rw [show (fun r : Run => decide (many ≤ r.many)) = runQ many from rfl, e2]⟩

set_option maxHeartbeats 2000000 in
set_option maxRecDepth 100000 in
theorem Fit_any (A : Option Addr) (c : Nat) (l : List Plc) (many : Int) (w : World) (h : PlsOk w A l) (hr : regErr l = 0) :
    Calls Tryz.prog 128 #[.slice A l.length c, .int .i64 many] w fun e w' => e = .returned (.int .i64 (fitIn many (runsOf l))) ∧ Below w.heap.size w w' := by
  obtain ⟨w0, hw0⟩ : ∃ w0, w0 = w.alloc (.cells #[.int .i64 many] 3) := ⟨_, rfl⟩
  have hx0 : Boxed w0 w.heap.size 3 (.int .i64 many) := hw0 ▸ Boxed.new _ _ _
  have hz0 : w0.heap.size = w.heap.size + 1 := by subst hw0; simp
  have hb0 : Below w.heap.size w w0 := by subst hw0; exact (Below.refl _ _).alloc (Nat.le_refl _) _
  have hw0' := hw0.symm
  have HX := Lib.hid hx0
  have HB := Lib.hid hb0
  have HS := Lib.hid (show (runsOf l).length ≤ 9 by have := runsFrom_length l 0; have := (reg_row hr).1; unfold runsOf; omega)
  have c1 := Lib.hid (Runs_any A c l w0 (h.below hb0) hr)
  have h0 := Lib.hid (fit_cases many (runsOf l))
  obtain ⟨R, hR⟩ : ∃ R, R = runsOf l := ⟨_, rfl⟩
  rw [← hR] at c1 h0 HS ⊢
  have c2 := Lib.hid (fun A' c' W (hb : Below w0.heap.size w0 W) (hrow : RunRow W A' R) => IdxRun_any A' c' R 196 #[.pointer (some ⟨w.heap.size, 0, none⟩)] (runQ many) W (enters_of Tryz.func196 (by kernel_rfl) rfl) hrow (by have := HS.out; unfold big; omega)
    (fun x _ W' hb' => fitQ_any x many w.heap.size W' (box_below (box_below HX.out hb (by omega)) hb' (by have := hb.size; omega)).cell (by have := hb.size; have := hb'.size; omega)))
  clear hw0 hx0 hb0 h hr hR
  rcases h0.out with ⟨e1, e2⟩ | ⟨j, hj, e1, e2⟩
  · rw [e1] at c2
    rw [e2]
    clear e1 e2 h0
    go_enter Tryz.func128, Tryz.ntmps128
    go_wp2_with (first | (go_at_call 114; refine (c1.out).mono ?_; rintro e w2 ⟨⟨A', c', rfl, hrow⟩, hb2⟩; have HR := Lib.hid hrow; clear hrow) | (go_at_call 195; refine (c2.out _ _ _ hb2 HR.out).mono ?_; rintro e w3 ⟨rfl, hb3⟩))
    go_ret
    exact ⟨rfl, HB.out.trans ((hb2.mono (by omega)).trans (hb3.mono (by have := hb2.size; omega)))⟩
  · rw [e1] at c2
    rw [e2]
    have hj' : (j : Int) < R.length := by omega
    have hj0 : (0 : Int) ≤ j := by omega
    clear e1 e2 h0
    go_enter Tryz.func128, Tryz.ntmps128
    go_wp2_with (first | (go_at_call 114; refine (c1.out).mono ?_; rintro e w2 ⟨⟨A', c', rfl, hrow⟩, hb2⟩; have HR := Lib.hid hrow; clear hrow) | (go_at_call 195; refine (c2.out _ _ _ hb2 HR.out).mono ?_; rintro e w3 ⟨rfl, hb3⟩; obtain ⟨ad, rfl, hab, k0, k1⟩ := run_at HR.out hb3 j hj))
    go_ret
    exact ⟨rfl, HB.out.trans ((hb2.mono (by omega)).trans (hb3.mono (by have := hb2.size; omega)))⟩

set_option maxHeartbeats 2000000 in
set_option maxRecDepth 100000 in
theorem First_any (A : Option Addr) (c : Nat) (l : List Plc) (many : Int) (w : World) (h : PlsOk w A l) :
    Calls Tryz.prog 57 #[.slice A l.length c, .int .i64 many] w fun e w' => e = .returned (.tuple #[.int .i64 (firstOf l many).1, .int .i64 (firstOf l many).2]) ∧ Below w.heap.size w w' := by
  have c1 := Lib.hid (RCheck_any A c l w h)
  have c2 := Lib.hid (fun W (hb : Below w.heap.size w W) hr => Fit_any A c l many W (h.below hb) hr)
  obtain ⟨V, hV⟩ : ∃ V, V = firstOf l many := ⟨_, rfl⟩
  rw [← hV]
  unfold firstOf at hV
  obtain ⟨E, hE⟩ : ∃ E, E = regErr l := ⟨_, rfl⟩
  rw [← hE] at c1 c2 hV
  obtain ⟨n, hn⟩ : ∃ n, n = fitIn many (runsOf l) := ⟨_, rfl⟩
  simp only [← hn] at c2 hV
  clear hE h hn
  by_cases t0 : E = 0
  · obtain rfl := t0
    rw [if_neg (by omega)] at hV
    have c3 := Lib.hid (fun W hb => c2.out W hb rfl)
    clear c2
    by_cases t1 : many < 1
    · rw [if_pos (.inl t1)] at hV
      subst hV
      clear c3
      go_enter Tryz.func57, Tryz.ntmps57
      go_wp2_with (first | (go_at_call 113; refine (c1.out).mono ?_; rintro e w2 ⟨rfl, hb2⟩))
      go_ret2
      exact ⟨rfl, hb2⟩
    have t1' : decide (many < 1) = false := by simp; omega
    by_cases t2 : 16 < many
    · rw [if_pos (.inr t2)] at hV
      subst hV
      clear c3 t1
      go_enter Tryz.func57, Tryz.ntmps57
      go_wp2_with (first | (go_at_call 113; refine (c1.out).mono ?_; rintro e w2 ⟨rfl, hb2⟩))
      go_ret2
      exact ⟨rfl, hb2⟩
    have t2' : decide (16 < many) = false := by simp; omega
    rw [if_neg (by omega)] at hV
    clear t1 t2
    by_cases t3 : n < 0
    · rw [if_pos t3] at hV
      subst hV
      go_enter Tryz.func57, Tryz.ntmps57
      go_wp2_with (first | (go_at_call 113; refine (c1.out).mono ?_; rintro e w2 ⟨rfl, hb2⟩) | (go_at_call 128; refine (c3.out _ hb2).mono ?_; rintro e w3 ⟨rfl, hb3⟩))
      go_ret2
      exact ⟨rfl, hb2.trans (hb3.mono hb2.size)⟩
    · rw [if_neg t3] at hV
      subst hV
      have t3' : decide (n < 0) = false := by simp; omega
      clear t3
      go_enter Tryz.func57, Tryz.ntmps57
      go_wp2_with (first | (go_at_call 113; refine (c1.out).mono ?_; rintro e w2 ⟨rfl, hb2⟩) | (go_at_call 128; refine (c3.out _ hb2).mono ?_; rintro e w3 ⟨rfl, hb3⟩))
      go_ret2
      exact ⟨rfl, hb2.trans (hb3.mono hb2.size)⟩
  · rw [if_pos t0] at hV
    subst hV
    have t0' : (E != 0) = true := by simp [t0]
    clear t0 c2
    go_enter Tryz.func57, Tryz.ntmps57
    go_wp2_with (first | (go_at_call 113; refine (c1.out).mono ?_; rintro e w2 ⟨rfl, hb2⟩))
    go_ret2
    exact ⟨rfl, hb2⟩

set_option maxHeartbeats 1000000 in
set_option maxRecDepth 100000 in
theorem Size_any (m : Mod) (w : World) (h : m.ok w) :
    Calls Tryz.prog 56 #[m.v] w fun e w' => e = .returned (.tuple #[.int .i64 (if modErr m ≠ 0 then 0 else manyOf m), .int .i64 (modErr m)]) ∧ Below w.heap.size w w' := by
  obtain ⟨w0, hw0⟩ : ∃ w0, w0 = w.alloc (.cells #[.string m.name, .int .i64 m.major, .int .i64 m.minor, .string m.text, .slice m.eA m.ex.length m.eC, .slice m.iA m.im.length m.iC, .slice m.pA m.pa.length m.pC] 75) := ⟨_, rfl⟩
  obtain ⟨e0, e1, e2, e3, e4, e5, e6, hz, hb⟩ := box7 hw0
  have hw0' := hw0.symm
  have hz0 : w.heap.size < w0.heap.size := by omega
  have H0 := Lib.hid hb
  have c1 := Lib.hid (Check_any m w0 (h.below hb))
  have c2 := Lib.hid (fun W => Many_any m W h.text)
  obtain ⟨E, hE⟩ : ∃ E, E = modErr m := ⟨_, rfl⟩
  rw [← hE] at c1 ⊢
  obtain ⟨M, hM⟩ : ∃ M, M = manyOf m := ⟨_, rfl⟩
  rw [← hM] at c2 ⊢
  clear hw0 hb h hE hM
  by_cases t0 : E = 0
  · obtain rfl := t0
    rw [if_neg (by omega)]
    go_enter Tryz.func56, Tryz.ntmps56
    go_wp2_with (first | (go_at_call 126; refine (c1.out).mono ?_; rintro e w2 ⟨rfl, hb2⟩; obtain ⟨hcw2, hfw2⟩ := bcell hb2; have hz2 : w.heap.size < w2.heap.size := by have := hb2.size; omega) | (go_at_call 127; refine (c2.out _).mono ?_; rintro e w3 ⟨rfl, hb3⟩))
    go_ret2
    exact ⟨rfl, (H0.out.trans (hb2.mono (by omega))).trans (hb3.mono (by omega))⟩
  · have t0' : (E != 0) = true := by simp [t0]
    rw [if_pos t0]
    clear t0
    go_enter Tryz.func56, Tryz.ntmps56
    go_wp2_with (first | (go_at_call 126; refine (c1.out).mono ?_; rintro e w2 ⟨rfl, hb2⟩))
    go_ret2
    exact ⟨rfl, H0.out.trans (hb2.mono (by omega))⟩

end Go.Proofs.YtogckcjcebckgaaGreat
end

section
/- The document's FreeOf: sector by sector. -/
namespace Go.Proofs.YtogckcjcebckgaaGreat
open Go.RowKit

/-- a block of 16 bools that reads as u -/
def Bits (w : World) (b : Nat) (u : Nat → Bool) : Prop := ∀ k, k < 16 → w.cell? ⟨b, k, none⟩ = some (.bool (u k)) ∧ w.frozen? ⟨b, k, none⟩ = false
theorem Bits.below {w w' : World} {b B : Nat} {u : Nat → Bool} (h : Bits w b u) (hb : Below B w w') (hB : b < B) : Bits w' b u := fun k hk => ⟨(hb.cell (p := ⟨b, k, none⟩) hB).trans (h k hk).1, (hb.frozen (p := ⟨b, k, none⟩) hB).trans (h k hk).2⟩
theorem Bits.congr {w : World} {b : Nat} {u u' : Nat → Bool} (h : Bits w b u) (e : ∀ k, k < 16 → u k = u' k) : Bits w b u' := fun k hk => by rw [← e k hk]; exact h k hk
theorem Bits.set {w : World} {b : Nat} {u : Nat → Bool} (h : Bits w b u) (i : Nat) (hi : i < 16) (v : Bool) : Bits (w.setCell ⟨b, i, none⟩ (.bool v)) b (fun k => if k = i then v else u k) := fun k hk => by
  refine ⟨?_, by rw [World.frozen?_setCell]; exact (h k hk).2⟩
  by_cases e : k = i
  · subst e
    simp only [if_pos]
    exact World.cell?_setCell_same' _ _ _ (by rw [(h k hk).1]; rfl)
  · simp only [if_neg e]
    rw [World.cell?_setCell_other _ _ _ _ (by intro h2; injection h2 with _ h3 _; exact e h3.symm)]
    exact (h k hk).1

theorem bits_zero (w : World) (t : TypeId) : Bits (w.alloc (.cells #[.bool false, .bool false, .bool false, .bool false, .bool false, .bool false, .bool false, .bool false, .bool false, .bool false, .bool false, .bool false, .bool false, .bool false, .bool false, .bool false] t)) w.heap.size (usedIn []) := fun k hk => by
  refine ⟨?_, by unfold World.frozen?; rw [show (w.alloc _).heap[(⟨w.heap.size, k, none⟩ : Addr).block]? = _ from heap_alloc_new w _]; simp⟩
  rw [World.cell?_alloc_new]
  show _ = some (Value.bool false)
  match k, hk with
  | 0, _ | 1, _ | 2, _ | 3, _ | 4, _ | 5, _ | 6, _ | 7, _ | 8, _ | 9, _ | 10, _ | 11, _ | 12, _ | 13, _ | 14, _ | 15, _ => rfl
  | k + 16, h => exact absurd h (by omega)
theorem used_take {l : List Plc} {j : Nat} (h : j < l.length) (i : Nat) : usedIn (l.take (j + 1)) i = (usedIn (l.take j) i || (decide (l[j].first ≤ i) && decide ((i : Int) < endOf l[j]))) := by
  unfold usedIn
  rw [List.take_succ_eq_append_getElem h, List.any_append]
  simp

theorem RunOwn.last {w : World} {base : Nat} {A : Option Addr} {K c : Nat} {pre : List Run} {r : Run} (h : RunOwn w base (.slice A K c) (pre ++ [r])) :
    ∃ g, A = some ⟨g, 0, none⟩ ∧ base ≤ g ∧ w.cell? ⟨g, pre.length * 2 + 1, none⟩ = some (.int .i64 r.many) ∧ w.frozen? ⟨g, pre.length * 2 + 1, none⟩ = false ∧
      ∀ m, RunOwn (w.setCell ⟨g, pre.length * 2 + 1, none⟩ (.int .i64 m)) base (.slice A K c) (pre ++ [⟨r.first, m⟩]) := by
  have hlen : (pre ++ [r]).length = pre.length + 1 := by simp
  have hfl : (pre.flatMap Run.cells).length = pre.length * 2 := flat_length (enc := Run.cells) (k := 2) (fun _ => rfl) pre
  obtain ⟨h1, h2⟩ := h
  rcases h2 with ⟨_, h0⟩ | ⟨g, cap, cur, hv, hg, hb, hnc, hcm, hsz, htk⟩
  · rw [hlen] at h0; omega
  injection hv with ha hk hc
  subst ha
  have hcs : cur.toList[pre.length * 2 + 1]? = some (.int .i64 r.many) := by
    have : (cur.toList.take ((pre ++ [r]).length * 2))[pre.length * 2 + 1]? = some (.int .i64 r.many) := by
      rw [htk, List.flatMap_append, List.getElem?_append_right (by omega), hfl, show pre.length * 2 + 1 - pre.length * 2 = 1 by omega]; rfl
    rwa [List.getElem?_take_of_lt (by rw [hlen]; omega)] at this
  have hcell : w.cell? ⟨g, pre.length * 2 + 1, none⟩ = some (.int .i64 r.many) := by
    simp only [World.cell?, hb]
    simpa using hcs
  refine ⟨g, rfl, hg, hcell, frozen_of_row _ _ _ _ _ hb, fun m => ?_⟩
  refine ⟨by simp [List.flatMap_append, hfl, Run.cells]; omega, .inr ⟨g, cap, cur.setIfInBounds (pre.length * 2 + 1) (.int .i64 m), ?_, hg, heap_setCell_same w g _ cur _ _ hb, ?_, hcm, by simpa using hsz, ?_⟩⟩
  · rw [← hc, hk]; simp
  · simpa using hnc
  · rw [Array.toList_setIfInBounds, List.take_set, show (pre ++ [(⟨r.first, m⟩ : Run)]).length = (pre ++ [r]).length by simp, htk, List.flatMap_append, List.flatMap_append, List.set_append_right _ _ (by omega), hfl, show pre.length * 2 + 1 - pre.length * 2 = 1 by omega]
    rfl

set_option maxHeartbeats 4000000 in
set_option maxRecDepth 100000 in
theorem FreeOf_any (A : Option Addr) (c : Nat) (l : List Plc) (w : World) (h : PlsOk w A l) (hr : regErr l = 0) :
    Calls Tryz.prog 190 #[.slice A l.length c] w fun e w' => (∃ (A' : Option Addr) (c' : Nat), e = .returned (.slice A' (runsOf l).length c') ∧ RunRow w' A' (runsOf l)) ∧ Below w.heap.size w w' := by
  have h8 := (reg_row hr).1
  have HP := Lib.hid h
  have HALL := Lib.hid (show ∀ x ∈ l, x.m.text.size ≤ 256 ∧ 0 ≤ x.first ∧ x.first ≤ 16 ∧ 1 ≤ manyOf x.m ∧ endOf x ≤ 16 from fun x hx => by
    obtain ⟨h1, h2⟩ := (reg_row hr).2.1 x hx
    have h3 := many_ok h1
    simp only [regQ, Bool.and_eq_true, decide_eq_true_eq] at h2
    unfold endOf
    exact ⟨(modErr_facts h1).2.2.1, by omega⟩)
  have HB0 := Lib.hid (bits_zero w 266)
  have HRUN := Lib.hid (freeUpto_runsOf (reg_row hr).2.2)
  obtain ⟨R, hRR⟩ : ∃ R, R = runsOf l := ⟨_, rfl⟩
  rw [← hRR] at HRUN ⊢
  clear h hr hRR
  go_enter Tryz.func190, Tryz.ntmps190
  go_wp2_with fail
  go_loopw [4] (fun i wr => ∃ (j : Nat), j ≤ l.length ∧ i = .int .i64 j ∧ Bits wr w.heap.size (usedIn (l.take j)) ∧ Below w.heap.size w wr) (fun i _ => l.length - (intOf i).toNat)
  case atStart => exact ⟨0, by omega, rfl, HB0.out, (Below.refl _ _).alloc (Nat.le_refl _) _⟩
  case round =>
    obtain ⟨j, hj, rfl, hbits, hb⟩ := hrel
    have HB := Lib.hid hb
    have HI := Lib.hid hbits
    have hBw : w.heap.size < wr.heap.size := by
      have := (hbits 0 (by omega)).1
      exact block_lt_of_cell this
    clear hbits
    by_cases hlt : j < l.length
    · have hlt' : (j : Int) < l.length := by omega
      obtain ⟨f1, f2, f3, f4, f5⟩ := HALL.out (l[j]'hlt) (List.getElem_mem _)
      have hU := Lib.hid (used_take hlt)
      have HROW := Lib.hid (fun (W : World) (hbW : Below w.heap.size w W) => plc_at HP.out.row hbW j hlt)
      obtain ⟨y, hy⟩ : ∃ y, y = l[j]'hlt := ⟨_, rfl⟩
      rw [← hy] at f1 f2 f3 f4 f5 hU HROW
      obtain ⟨f, hf⟩ : ∃ f : Nat, y.first = f := ⟨y.first.toNat, by omega⟩
      obtain ⟨M, hM⟩ : ∃ M : Nat, manyOf y.m = M := ⟨(manyOf y.m).toNat, by omega⟩
      have he : endOf y = y.first + manyOf y.m := rfl
      have hfm : f + M ≤ 16 := by omega
      have cS := Lib.hid (fun W => SizeOf_any y.m W (by unfold big; omega))
      rw [hM] at cS
      have hU2 := Lib.hid (show ∀ i : Nat, usedIn (l.take (j + 1)) i = (usedIn (l.take j) i || (decide (f ≤ i) && decide (i < f + M))) from fun i => by rw [hU.out i, hf, show endOf y = ((f + M : Nat) : Int) by omega]; congr 2 <;> simp <;> omega)
      have HF := Lib.hid hf
      clear he f1 f2 f3 f4 f5 hU hy hM hb hf
      go_wp2_with fail
      go_loopw [5] (fun i wr2 => ∃ (k : Nat), k ≤ M ∧ i = .int .i64 k ∧ Bits wr2 w.heap.size (fun i => usedIn (l.take j) i || (decide (f ≤ i) && decide (i < f + k))) ∧ Below w.heap.size w wr2) (fun i _ => M - (intOf i).toNat)
      case atStart => exact ⟨0, by omega, rfl, HI.out.congr (fun k _ => by simp; omega), HB.out⟩
      case round =>
        obtain ⟨k, hk, rfl, hbits2, hb2⟩ := hrel
        have HB2 := Lib.hid hb2
        have HI2 := Lib.hid hbits2
        have hBw2 : w.heap.size < wr.heap.size := block_lt_of_cell (hbits2 0 (by omega)).1
        clear hbits2
        obtain ⟨ad, rfl, hab, h0, h1, h2, h3, h4, h5, h6, h7⟩ := HROW.out wr HB2.out
        by_cases hkm : k < M
        · have hkm' : (k : Int) < M := by omega
          obtain ⟨s, hs⟩ : ∃ s, s = f + k := ⟨_, rfl⟩
          have q1 : IntKind.i64.wrap (y.first + (k : Int)) = (s : Int) := by rw [HF.out, IntWalk.i64_in _ (by omega)]; omega
          have hs16 : (s : Int) < 16 := by omega
          have hs0 : (0 : Int) ≤ (s : Int) := by omega
          have HSK := Lib.hid hs
          clear hs
          go_wp2_with (go_at_call 121; refine (cS.out _).mono ?_; rintro e w3 ⟨rfl, hb3⟩; have hb3' := hb3.mono (show w.heap.size + 1 ≤ wr.heap.size by omega); obtain ⟨p0, p1⟩ := (HI2.out.below hb3' (by omega)) s (by omega); obtain ⟨ad', e', _, k0, k1, k2, k3, k4, k5, k6, k7⟩ := HROW.out w3 (HB2.out.trans (hb3'.mono (by omega))); obtain rfl := Option.some.inj e'; have hz3 := hb3.size)
          go_roundw
          case rel =>
            refine ⟨k + 1, by omega, by go_num, ?_, ((HB2.out.trans (hb3'.mono (by omega))).setCell (by simp) _)⟩
            refine ((HI2.out.below hb3' (by omega)).set s (by omega) true).congr fun i _ => ?_
            have := HSK.out
            by_cases hi : i = s
            · rw [if_pos hi]; simp; omega
            · rw [if_neg hi]
              congr 1
              rw [Bool.eq_iff_iff]
              simp; omega
          case measure => (simp [intOf]; try omega)
        · have hkm' : decide ((k : Int) < M) = false := by simp; omega
          have HKM := Lib.hid (show k = M by omega)
          go_wp2_with (go_at_call 121; refine (cS.out _).mono ?_; rintro e w3 ⟨rfl, hb3⟩; have hb3' := hb3.mono (show w.heap.size + 1 ≤ wr.heap.size by omega))
          go_roundw
          case rel =>
            refine ⟨j + 1, by omega, by go_num, ?_, HB2.out.trans (hb3'.mono (by omega))⟩
            refine (HI2.out.below hb3' (by omega)).congr fun i _ => ?_
            rw [hU2.out i, HKM.out]
          case measure => (simp [intOf]; try omega)
    · have e0 : l.take j = l := List.take_of_length_le (by omega)
      rw [e0] at HI
      obtain ⟨u, hu⟩ : ∃ u, u = usedIn l := ⟨_, rfl⟩
      rw [← hu] at HI HRUN
      have hlt' : decide ((j : Int) < l.length) = false := by simp; omega
      clear e0 hu hb HALL HB0
      go_wp2_with fail
      go_loopw [6, 7] (fun v i wr => ∃ (n : Nat), n ≤ 16 ∧ i = .int .i64 n ∧ Bits wr w.heap.size u ∧ RunOwn wr (w.heap.size + 1) v (freeUpto u n) ∧ (freeUpto u n).length ≤ n ∧ Below w.heap.size w wr) (fun _ i _ => 16 - (intOf i).toNat)
      case atStart => exact ⟨0, by omega, rfl, HI.out, RunOwn.nil _ _, by simp [freeUpto], HB.out⟩
      case round =>
        obtain ⟨n, hn, rfl, hbits2, hown, hln, hb2⟩ := hrel
        have HB2 := Lib.hid hb2
        have HI2 := Lib.hid hbits2
        have hBw2 : w.heap.size < wr.heap.size := block_lt_of_cell (hbits2 0 (by omega)).1
        obtain ⟨K, hK⟩ : ∃ K, K = (freeUpto u n).length := ⟨_, rfl⟩
        have hown' := hown
        unfold RunOwn at hown'
        rw [← hK] at hln hown'
        obtain ⟨vA, vc, rfl⟩ := own_form hown'
        have HO := Lib.hid hown
        have HK := Lib.hid hK
        clear hbits2 hown hown' hb2 hK
        by_cases hn16 : n < 16
        · have hn16' : (n : Int) < 16 := by omega
          obtain ⟨p0, p1⟩ := HI2.out n hn16
          obtain ⟨b, hb⟩ : ∃ b, b = u n := ⟨_, rfl⟩
          rw [← hb] at p0
          cases b
          · by_cases hn0 : 0 < n
            · have hn0' : (0 : Int) < n := by omega
              obtain ⟨k, hk⟩ : ∃ k, n = k + 1 := ⟨n - 1, by omega⟩
              have hk16 : k < 16 := by omega
              have q1 : IntKind.i64.wrap ((n : Int) - 1) = k := by rw [IntWalk.i64_in _ (by omega)]; omega
              have hk0 : (0 : Int) ≤ k := by omega
              have hk1 : (k : Int) < 16 := by omega
              obtain ⟨m0, m1⟩ := HI2.out k hk16
              obtain ⟨b2, hb2⟩ : ∃ b2, b2 = u k := ⟨_, rfl⟩
              rw [← hb2] at m0
              cases b2
              · have hprev : 0 < n ∧ u (n - 1) = false := ⟨hn0, by rw [show n - 1 = k by omega]; exact hb2.symm⟩
                have e1 := freeUpto_more hb.symm hprev
                obtain ⟨pre, r, e2, e3, e4⟩ := freeUpto_last hprev.1 hprev.2
                rw [e2, bump_last] at e1
                have HE1 := Lib.hid e1
                have hown := HO.out
                have hK2 : K = pre.length + 1 := by rw [HK.out, e2]; simp
                rw [e2] at hown
                obtain ⟨g, hvA, hg, t0, t1, t2⟩ := RunOwn.last hown
                subst hvA
                obtain ⟨p, hp⟩ : ∃ p, p = pre.length := ⟨_, rfl⟩
                rw [← hp] at t0 t1 t2 hK2
                have q2 : IntKind.i64.wrap ((K : Int) - 1) = p := by rw [IntWalk.i64_in _ (by omega)]; omega
                have q3 : (p : Int) < K := by omega
                have q4 : (0 : Int) ≤ p := by omega
                have q5 : IntKind.i64.wrap (r.many + 1) = r.many + 1 := IntWalk.i64_in _ (by omega)
                have T2 := Lib.hid (t2 (r.many + 1))
                have HLN := Lib.hid (show (pre ++ [(⟨r.first, r.many + 1⟩ : Run)]).length ≤ n + 1 by simp; omega)
                clear hb hb2 hk e1 e2 e3 e4 hown hK2 hp t2 hprev
                go_wp2_with fail
                go_roundw
                case rel => exact ⟨n + 1, by omega, by go_num, fun i hi => ⟨(World.cell?_setCell_other _ _ _ _ (by intro h2; injection h2 with h3 _ _; omega)).trans (HI2.out i hi).1, by rw [World.frozen?_setCell]; exact (HI2.out i hi).2⟩, by rw [HE1.out]; exact T2.out, by rw [HE1.out]; exact HLN.out, HB2.out.setCell (by simp; omega) _⟩
                case measure => (simp [intOf]; try omega)
              · have hprev : ¬ (0 < n ∧ u (n - 1) = false) := fun h => by have := h.2; rw [show n - 1 = k by omega, ← hb2] at this; cases this
                have e1 := Lib.hid (freeUpto_new hb.symm hprev)
                clear hb hb2 hk hprev
                go_wp2_with (at_builtin; refine append_Run wr rfl _ _ rfl (w.heap.size + 1) (.slice vA K vc) (freeUpto u n) ⟨n, 1⟩ rfl rfl HO.out (by have := HK.out; omega) (by omega) ?_; intro v' w1 hown1 hg1; have HOWN := Lib.hid hown1; have HG := Lib.hid hg1; clear hown1 hg1)
                go_roundw
                case rel =>
                  have hbel : Below (w.heap.size + 1) wr w1 := ((Below.refl _ wr).alloc (by omega) _).grown HG.out (by simp; omega) (fun g hg => (HO.out.lt g hg).1)
                  exact ⟨n + 1, by omega, by go_num, HI2.out.below hbel (by omega), by rw [e1.out]; exact HOWN.out, by have hkk := HK.out; clear HK; rw [e1.out, List.length_append, List.length_singleton, ← hkk]; omega, HB2.out.trans (hbel.mono (by omega))⟩
                case measure => (simp [intOf]; try omega)
            · have e1 := Lib.hid (freeUpto_new hb.symm (fun h => hn0 h.1))
              have hn0' : decide ((0 : Int) < n) = false := by simp; omega
              clear hb
              go_wp2_with (at_builtin; refine append_Run wr rfl _ _ rfl (w.heap.size + 1) (.slice vA K vc) (freeUpto u n) ⟨n, 1⟩ rfl rfl HO.out (by have := HK.out; omega) (by omega) ?_; intro v' w1 hown1 hg1; have HOWN := Lib.hid hown1; have HG := Lib.hid hg1; clear hown1 hg1)
              go_roundw
              case rel =>
                have hbel : Below (w.heap.size + 1) wr w1 := ((Below.refl _ wr).alloc (by omega) _).grown HG.out (by simp; omega) (fun g hg => (HO.out.lt g hg).1)
                exact ⟨n + 1, by omega, by go_num, HI2.out.below hbel (by omega), by rw [e1.out]; exact HOWN.out, by have hkk := HK.out; clear HK; rw [e1.out, List.length_append, List.length_singleton, ← hkk]; omega, HB2.out.trans (hbel.mono (by omega))⟩
              case measure => (simp [intOf]; try omega)
          · have e1 := Lib.hid (freeUpto_used hb.symm)
            clear hb
            go_wp2_with fail
            go_roundw
            case rel => exact ⟨n + 1, by omega, by go_num, HI2.out, e1.out ▸ HO.out, by have hkk := HK.out; rw [e1.out, ← hkk]; omega, HB2.out⟩
            case measure => (simp [intOf]; try omega)
        · have hn16' : decide ((n : Int) < 16) = false := by simp; omega
          obtain rfl : n = 16 := by omega
          obtain ⟨A', c', hv, hrow⟩ := RunOwn.row HO.out
          injection hv with hv1 _ hv2
          subst hv1
          have HROW := Lib.hid (show RunRow wr vA R from HRUN.out ▸ hrow)
          have HE := Lib.hid (show Value.slice vA K vc = .slice vA R.length vc by rw [HK.out, HRUN.out])
          clear hv2 hrow hln
          go_wp2_with fail
          go_ret
          refine ⟨?_, HB2.out⟩
          first | exact ⟨vA, vc, congrArg Ending.returned HE.out, HROW.out⟩ | exact ⟨vA, ⟨vc, congrArg Ending.returned HE.out⟩, HROW.out⟩
end Go.Proofs.YtogckcjcebckgaaGreat
end

section
/- The document's FitOf; sameRuns; regionBegun returns true. -/
namespace Go.Proofs.YtogckcjcebckgaaGreat
open Go.RowKit

theorem fitIn_cons {many : Int} {r : Run} {l : List Run} : fitIn many (r :: l) = if many ≤ r.many then r.first else fitIn many l := by
  unfold fitIn
  by_cases h1 : many ≤ r.many <;> simp [h1]
theorem fitIn_drop {many : Int} {l : List Run} {j : Nat} (h : j < l.length) : fitIn many (l.drop j) = if many ≤ l[j].many then l[j].first else fitIn many (l.drop (j + 1)) := by
  rw [List.drop_eq_getElem_cons h, fitIn_cons]

set_option maxHeartbeats 2000000 in
set_option maxRecDepth 100000 in
theorem FitOf_any (A : Option Addr) (c : Nat) (l : List Plc) (many : Int) (w : World) (h : PlsOk w A l) (hr : regErr l = 0) :
    Calls Tryz.prog 120 #[.slice A l.length c, .int .i64 many] w fun e w' => e = .returned (.int .i64 (fitIn many (runsOf l))) ∧ Below w.heap.size w w' := by
  have HS := Lib.hid (show (runsOf l).length ≤ 9 by have := runsFrom_length l 0; have := (reg_row hr).1; unfold runsOf; omega)
  have c1 := Lib.hid (FreeOf_any A c l w h hr)
  obtain ⟨R, hR⟩ : ∃ R, R = runsOf l := ⟨_, rfl⟩
  rw [← hR] at c1 HS ⊢
  clear h hr hR
  go_enter Tryz.func120, Tryz.ntmps120
  go_wp2_with (go_at_call 190; refine (c1.out).mono ?_; rintro e w2 ⟨⟨A', c', rfl, hrow⟩, hb2⟩; have HR := Lib.hid hrow; clear hrow)
  go_loopw [6] (fun i wr => ∃ (j : Nat), j ≤ R.length ∧ i = .int .i64 j ∧ fitIn many (R.drop j) = fitIn many R ∧ Below w2.heap.size w2 wr) (fun i _ => R.length - (intOf i).toNat)
  case atStart => exact ⟨0, by omega, rfl, rfl, Below.refl _ _⟩
  case round =>
    obtain ⟨j, hj, rfl, hE, hb⟩ := hrel
    have HE := Lib.hid hE
    have HB := Lib.hid hb
    have hl := HS.out
    clear hE
    by_cases hlt : j < R.length
    · have hlt' : (j : Int) < R.length := by omega
      obtain ⟨ad, rfl, hab, k0, k1⟩ := run_at HR.out hb j hlt
      have hd := fitIn_drop (many := many) hlt
      obtain ⟨f, hf⟩ : ∃ f, f = R[j].first := ⟨_, rfl⟩
      obtain ⟨m, hm⟩ : ∃ m, m = R[j].many := ⟨_, rfl⟩
      rw [← hf] at k0 hd
      rw [← hm] at k1 hd
      clear hf hm hb
      by_cases t0 : many ≤ m
      · rw [if_pos t0] at hd
        have e1 := Lib.hid (hd.symm.trans HE.out)
        clear hd
        go_wp2_with fail
        go_ret
        exact ⟨ret_int e1.out, hb2.trans (HB.out.mono hb2.size)⟩
      · rw [if_neg t0] at hd
        have t0' : decide (many ≤ m) = false := by simp; omega
        have e1 := Lib.hid (hd.symm.trans HE.out)
        clear hd t0
        go_wp2_with fail
        go_roundw
        case rel => exact ⟨j + 1, by omega, by go_num, e1.out, HB.out⟩
        case measure => (simp [intOf]; try omega)
    · have e1 := Lib.hid (show fitIn many R = -1 by rw [← HE.out, List.drop_eq_nil_of_le (by omega)]; rfl)
      go_wp2_with fail
      go_ret
      exact ⟨ret_int e1.out.symm, hb2.trans (HB.out.mono hb2.size)⟩

set_option maxHeartbeats 2000000 in
set_option maxRecDepth 100000 in
theorem sameRuns_any (A A' : Option Addr) (c c' : Nat) (l : List Run) (w : World) (h : RunRow w A l) (h' : RunRow w A' l) (hl : l.length ≤ 100) :
    Calls Tryz.prog 110 #[.slice A l.length c, .slice A' l.length c'] w fun e w' => e = .returned (.bool true) ∧ Below w.heap.size w w' := by
  have H := Lib.hid h
  have H' := Lib.hid h'
  clear h h'
  go_enter Tryz.func110, Tryz.ntmps110
  go_wp2_with fail
  go_loopw [5] (fun i wr => ∃ (j : Nat), j ≤ l.length ∧ i = .int .i64 j ∧ Below w.heap.size w wr) (fun i _ => l.length - (intOf i).toNat)
  case atStart => exact ⟨0, by omega, rfl, Below.refl _ _⟩
  case round =>
    obtain ⟨j, hj, rfl, hb⟩ := hrel
    have HB := Lib.hid hb
    by_cases hlt : j < l.length
    · have hlt' : (j : Int) < l.length := by omega
      obtain ⟨ad, rfl, hab, k0, k1⟩ := run_at H.out hb j hlt
      obtain ⟨ad', rfl, hab', k0', k1'⟩ := run_at H'.out hb j hlt
      obtain ⟨f, hf⟩ : ∃ f, f = l[j].first := ⟨_, rfl⟩
      obtain ⟨m, hm⟩ : ∃ m, m = l[j].many := ⟨_, rfl⟩
      rw [← hf] at k0 k0'
      rw [← hm] at k1 k1'
      clear hf hm hb
      go_wp2_with fail
      go_quiet (fail)
      go_wp2_with fail
      go_roundw
      case rel => exact ⟨j + 1, by omega, by go_num, below_drewN HB.out _⟩
      case measure => (simp [intOf]; try omega)
    · go_wp2_with fail
      go_ret
      exact ⟨rfl, HB.out⟩

theorem begun_size (A B C a b c) : modErr (libM A B C a b c) = 0 ∧ manyOf (libM A B C a b c) = 1 := ⟨by kernel_rfl, by kernel_rfl⟩
theorem begun_reg (a1 a2 a3 a4 a5 a6 b1 b2 b3 b4 b5 b6) : regErr (pairL a1 a2 a3 b1 b2 b3 a4 a5 a6 b4 b5 b6) = 0 := by kernel_rfl
theorem begun_free (a1 a2 a3 a4 a5 a6 b1 b2 b3 b4 b5 b6) : freeOf (pairL a1 a2 a3 b1 b2 b3 a4 a5 a6 b4 b5 b6) = [⟨0, 1⟩, ⟨2, 2⟩, ⟨5, 11⟩] := by kernel_rfl
theorem begun_first (a1 a2 a3 a4 a5 a6 b1 b2 b3 b4 b5 b6) : firstOf (pairL a1 a2 a3 b1 b2 b3 a4 a5 a6 b4 b5 b6) 2 = (2, 0) := by kernel_rfl

set_option maxHeartbeats 4000000 in
set_option maxRecDepth 100000 in
theorem regionBegun_any (w : World) : Calls Tryz.prog 41 #[] w fun e w' => e = .returned (.bool true) ∧ Below w.heap.size w w' := by
  go_enter Tryz.func41, Tryz.ntmps41
  go_wp2_with fail
  refine (lib_any _).mono ?_; rintro e w1 ⟨⟨A1, B1, C1, a1, b1, c1, rfl, hm1⟩, hb1⟩
  have f1 := Lib.hid (Size_any _ w1 hm1)
  rw [(begun_size A1 B1 C1 a1 b1 c1).1, if_neg (by omega), (begun_size A1 B1 C1 a1 b1 c1).2] at f1
  go_wp2_with fail
  refine (f1.out).mono ?_; rintro e w2 ⟨rfl, hb2⟩
  clear f1
  go_wp2_with fail
  refine (pair_any _).mono ?_; rintro e w3 ⟨⟨A3, c3, a1, a2, a3, a4, a5, a6, b1, b2, b3, b4, b5, b6, rfl, hl3⟩, hb3⟩
  have f2 := Lib.hid (Free_any A3 c3 (pairL a1 a2 a3 b1 b2 b3 a4 a5 a6 b4 b5 b6) w3 hl3)
  rw [begun_reg, begun_free] at f2
  go_wp2_with fail
  refine (f2.out).mono ?_; rintro e w4 ⟨⟨A4, c4, rfl, hr4⟩, hb4⟩
  clear f2
  go_wp2_with fail
  refine (pair_any _).mono ?_; rintro e w5 ⟨⟨A5, c5, d1, d2, d3, d4, d5, d6, e1, e2, e3, e4, e5, e6, rfl, hl5⟩, hb5⟩
  have f3 := Lib.hid (First_any A5 c5 (pairL d1 d2 d3 e1 e2 e3 d4 d5 d6 e4 e5 e6) 2 w5 hl5)
  rw [begun_first] at f3
  go_wp2_with fail
  refine (f3.out).mono ?_; rintro e w6 ⟨rfl, hb6⟩
  have hs1 := hb1.size
  have hs2 := hb2.size
  have hs3 := hb3.size
  have hs4 := hb4.size
  have hs5 := hb5.size
  have hs6 := hb6.size
  clear f3
  have hbA : Below w4.heap.size w4 w6 := hb5.trans (hb6.mono hs5)
  have hbB := fun o => (Below.refl w6.heap.size w6).alloc (Nat.le_refl _) o
  have f5 := Lib.hid (sameRuns_any A4 (some ⟨w6.heap.size, 0, none⟩) c4 3 [⟨0, 1⟩, ⟨2, 2⟩, ⟨5, 11⟩] (w6.alloc (.cells #[.int .i64 0, .int .i64 1, .int .i64 2, .int .i64 2, .int .i64 5, .int .i64 11] 82)) (hr4.below (hbA.trans ((hbB _).mono (by omega)))) (row_block (enc := Run.cells) (k := 2) (fun _ => rfl) (heap_alloc_new w6 _) rfl) (by simp))
  go_wp2_with (go_at_call 110; refine (f5.out).mono ?_; rintro e w7 ⟨rfl, hb7⟩)
  go_ret
  refine ⟨by simp, ?_⟩
  have b6 : Below w.heap.size w w6 := hb1.trans ((hb2.mono hs1).trans ((hb3.mono (by omega)).trans ((hb4.mono (by omega)).trans (hbA.mono (by omega)))))
  exact b6.trans (((hbB _).mono (by have := b6.size; omega)).trans (hb7.mono (by have := b6.size; simp; omega)))

end Go.Proofs.YtogckcjcebckgaaGreat
end

section
/- Plain Lean: bytes that no patch touches are those of the text; in the area each image lies where it is placed, bytes 255 elsewhere. -/
open Go
namespace Go.Proofs.YtogckcjcebckgaaGreat
open Gs (Tx)

theorem pats_in {z ni : Int} : ∀ {l : List Pat} {e : Int}, patsErr z ni e l = 0 → ∀ p ∈ l, 0 ≤ p.at_ ∧ p.at_ + widthOf p.kind ≤ z
  | p :: l, e, h, q, hq => by
    unfold patsErr at h
    by_cases h1 : patErr z ni e p = 0
    · rw [if_neg (by omega)] at h
      rcases List.mem_cons.1 hq with rfl | hq
      · unfold patErr at h1
        split at h1
        · omega
        · split at h1
          · omega
          · omega
      · exact pats_in h q hq
    · rw [if_pos h1] at h; exact absurd h h1
theorem mod_in {m : Mod} (h : modErr m = 0) : ∀ p ∈ m.pa, 0 ≤ p.at_ ∧ p.at_ + widthOf p.kind ≤ m.text.size := by
  have hf := modErr_facts h
  unfold modErr at h
  obtain ⟨a1, a2, a3, a4, a5, a6, a7, a8, _, _, a9⟩ := hf
  rw [if_neg (by simp [a1, a2]), if_neg (by omega), if_neg (by omega), if_neg (by omega), if_neg (by omega), if_neg (by omega)] at h
  exact pats_in h
theorem put_at {s : ByteArray} {a k : Nat} {v : Int} (h : a + k ≤ s.size) {i : Nat} (ho : i < a ∨ a + k ≤ i) : (tx (putStr s a k v))[i]? = (tx s)[i]? := by
  have hl : (tx s).length = s.size := rfl
  show (s.data.toList.take a ++ digits v k ++ s.data.toList.drop (a + k))[i]? = s.data.toList[i]?
  have h1 : (s.data.toList.take a).length = a := by rw [List.length_take]; have : s.data.toList.length = s.size := rfl; omega
  rcases ho with ho | ho
  · rw [List.append_assoc, List.getElem?_append_left (by omega), List.getElem?_take_of_lt ho]
  · rw [List.getElem?_append_right (by rw [List.length_append, h1, digits_length]; omega), List.length_append, h1, digits_length, List.getElem?_drop]
    congr 1; omega
theorem apply_at {s : ByteArray} {kind at_ add sym base : Int} (h : applyErr s.size kind at_ add sym base = 0) {i : Nat} (ho : (i : Int) < at_ ∨ at_ + widthOf kind ≤ i) : (tx (applyStr s kind at_ add sym base))[i]? = (tx s)[i]? := by
  unfold applyStr
  rw [if_pos h]
  have hw : widthOf kind ≠ 0 := by intro e; unfold applyErr at h; rw [if_pos e] at h; omega
  have h2 : ¬ (add < 0 ∨ 65535 < add ∨ at_ < 0 ∨ s.size - widthOf kind < at_ ∨ base < 0 ∨ 65279 < base) := by
    intro e; unfold applyErr at h; rw [if_neg hw, if_pos e] at h; omega
  have hr := width_rng kind hw
  exact put_at (by omega) (by omega)
/-- does a patch touch byte i? -/
def touches (i : Nat) (p : Pat) : Bool := decide (p.at_ ≤ i) && decide ((i : Int) < p.at_ + widthOf p.kind)
theorem patch_at {at_ : List Int} {base : Int} {i : Nat} : ∀ {r : List Pat} {s : ByteArray}, (patchAll at_ base r s).2 = 0 → r.any (touches i) = false → (tx (patchAll at_ base r s).1)[i]? = (tx s)[i]?
  | [], _, _, _ => rfl
  | p :: r, s, h, ht => by
    rw [List.any_cons, Bool.or_eq_false_iff] at ht
    unfold patchAll at h ⊢
    by_cases e : applyErr s.size p.kind p.at_ p.add (symOf at_ base p) base = 0
    · rw [if_neg (by omega)] at h ⊢
      rw [patch_at h ht.2]
      refine apply_at e ?_
      have := ht.1
      simp only [touches, Bool.and_eq_false_iff, decide_eq_false_iff_not] at this
      omega
    · rw [if_pos e] at h; exact absurd h e
/-- an image's bytes: of the text, where no patch touches; 255 behind it -/
theorem img_at {k : Krn} {l : List Plc} {x : Plc} (h : (imgOf k l x).2 = 0) (i : Nat) :
    (i < x.m.text.size → x.m.pa.any (touches i) = false → (imgOf k l x).1[i]? = (tx x.m.text)[i]?) ∧ (x.m.text.size ≤ i → ∀ b, (imgOf k l x).1[i]? = some b → b = 255) := by
  unfold imgOf at h ⊢
  split at h
  · contradiction
  · rename_i e1
    split at h
    · contradiction
    · rename_i e2
      rw [if_neg e1, if_neg e2]
      have e3 : (patchAll (addrsOf k l x.m.im).1 (baseOf x) x.m.pa x.m.text).2 = 0 := by omega
      have hs := patchAll_size e3
      have hl : (tx (patchAll (addrsOf k l x.m.im).1 (baseOf x) x.m.pa x.m.text).1).length = x.m.text.size := hs
      unfold pad
      refine ⟨fun h1 h2 => ?_, fun h1 b hb => ?_⟩
      · show (_ ++ _)[i]? = _
        rw [List.getElem?_append_left (by omega)]
        exact patch_at e3 h2
      · rw [List.getElem?_append_right (by omega)] at hb
        obtain ⟨_, hb⟩ := List.getElem?_eq_some_iff.1 hb
        rw [List.getElem_replicate] at hb
        exact hb.symm

theorem row16_first : ∀ {l : List Plc} {a : Int}, Row16 a l → ∀ x ∈ l, a ≤ x.first ∧ endOf x ≤ 16
  | [], _, _, x, hx => by cases hx
  | y :: l, a, ⟨h1, h2, h3, h4⟩, x, hx => by
    have h5 := h4.le
    rcases List.mem_cons.1 hx with rfl | hx
    · exact ⟨h1, h5⟩
    · have := row16_first h4 x hx
      have he : endOf y = y.first + manyOf y.m := rfl
      exact ⟨by omega, this.2⟩
theorem area_law {k : Krn} {l : List Plc} : ∀ {r : List Plc} {a : Int} {T : Tx}, areaGo k l r a = (T, 0) → Row16 a r →
    (T.length : Int) = 64 * (16 - a) ∧ (∀ x ∈ r, (imgOf k l x).2 = 0 ∧ ∃ d : Nat, (d : Int) = 64 * (x.first - a) ∧ (T.drop d).take (imgOf k l x).1.length = (imgOf k l x).1) ∧
      ∀ (n : Nat) b, T[n]? = some b → (∀ x ∈ r, (n : Int) < 64 * (x.first - a) ∨ 64 * (endOf x - a) ≤ n) → b = 255
  | [], a, T, h, hr => by
    have ha : a ≤ 16 := hr
    unfold areaGo at h
    injection h with h _
    subst h
    refine ⟨by rw [List.length_replicate]; omega, fun x hx => (by cases hx), fun n b hb _ => ?_⟩
    obtain ⟨_, hb⟩ := List.getElem?_eq_some_iff.1 hb
    rw [List.getElem_replicate] at hb
    exact hb.symm
  | x :: r, a, T, h, hr => by
    obtain ⟨h1, h2, h3, h4⟩ := hr
    unfold areaGo at h
    split at h
    · rename_i e; injection h with _ h; exact absurd h e
    · rename_i e1
      split at h
      · rename_i e; injection h with _ h; exact absurd h e
      · rename_i e2
        injection h with h _
        have e1' : (imgOf k l x).2 = 0 := by omega
        have e2' : (areaGo k l r (endOf x)).2 = 0 := by omega
        obtain ⟨T', hT'⟩ : ∃ T', T' = (areaGo k l r (endOf x)).1 := ⟨_, rfl⟩
        obtain ⟨i1, i2, i3⟩ := area_law (show areaGo k l r (endOf x) = (T', 0) by rw [hT', ← e2']) h4
        rw [← hT'] at h
        have hG := imgOf_length e1'
        obtain ⟨G, hGG⟩ : ∃ G, G = (imgOf k l x).1 := ⟨_, rfl⟩
        rw [← hGG] at h hG
        obtain ⟨p, hp⟩ : ∃ p, p = (64 * (x.first - a)).toNat := ⟨_, rfl⟩
        rw [← hp] at h
        have hpz : (p : Int) = 64 * (x.first - a) := by omega
        have he : endOf x = x.first + manyOf x.m := rfl
        have hpl : (List.replicate p (255 : UInt8)).length = p := List.length_replicate
        subst h
        refine ⟨by rw [List.length_append, List.length_append, hpl]; omega, fun y hy => ?_, fun n b hb hn => ?_⟩
        · rcases List.mem_cons.1 hy with rfl | hy
          · refine ⟨e1', p, hpz, ?_⟩
            rw [← hGG, List.append_assoc, List.drop_append_of_le_length (by omega), List.drop_of_length_le (by omega), List.nil_append, List.take_left']
            rfl
          · obtain ⟨j1, d, j2, j3⟩ := i2 y hy
            refine ⟨j1, p + G.length + d, by omega, ?_⟩
            rw [List.drop_append, List.drop_of_length_le (by rw [List.length_append, hpl]; omega), List.nil_append, List.length_append, hpl, Nat.add_sub_cancel_left]
            exact j3
        · by_cases hn1 : n < p
          · rw [List.append_assoc, List.getElem?_append_left (by omega)] at hb
            obtain ⟨_, hb⟩ := List.getElem?_eq_some_iff.1 hb
            rw [List.getElem_replicate] at hb
            exact hb.symm
          · have hx := hn x List.mem_cons_self
            rw [List.getElem?_append_right (by rw [List.length_append, hpl]; omega), List.length_append, hpl] at hb
            refine i3 _ b hb fun y hy => ?_
            have := hn y (List.mem_cons_of_mem _ hy)
            omega

end Go.Proofs.YtogckcjcebckgaaGreat
end

section
/- Plain Lean: packing (chapter J): one step, all steps; what is moved is as right as it was. No program in sight. -/
open Go
namespace Go.Proofs.YtogckcjcebckgaaGreat
open Gs (Tx)

/-- one step: the first module that may move moves -/
def stepL : Int → List Plc → Option (List Plc)
  | _, [] => none
  | a, x :: l => if a < x.first then some (⟨x.m, a⟩ :: l) else (stepL (endOf x) l).map (x :: ·)
/-- all steps; how many there are -/
def packL : Int → List Plc → List Plc × Nat
  | _, [] => ([], 0)
  | a, x :: l => (⟨x.m, a⟩ :: (packL (a + manyOf x.m) l).1, (packL (a + manyOf x.m) l).2 + if x.first = a then 0 else 1)

theorem step_none : ∀ {l : List Plc} {a : Int}, Row16 a l → stepL a l = none → packL a l = (l, 0)
  | [], _, _, _ => rfl
  | x :: l, a, ⟨h1, h2, h3, h4⟩, h => by
    unfold stepL at h
    by_cases e : a < x.first
    · rw [if_pos e] at h; cases h
    · rw [if_neg e] at h
      have ea : x.first = a := by omega
      have h5 : stepL (endOf x) l = none := by
        cases h6 : stepL (endOf x) l
        · rfl
        · rw [h6] at h; cases h
      have h7 := step_none h4 h5
      unfold packL
      have e2 : a + manyOf x.m = endOf x := by unfold endOf; omega
      rw [e2, h7, if_pos ea]
      show ((⟨x.m, a⟩ :: l : List Plc), 0 + 0) = _
      rw [← ea]
theorem step_some : ∀ {l l' : List Plc} {a : Int}, Row16 a l → stepL a l = some l' → Row16 a l' ∧ packL a l = ((packL a l').1, (packL a l').2 + 1)
  | [], _, _, _, h => by cases h
  | x :: l, l', a, ⟨h1, h2, h3, h4⟩, h => by
    unfold stepL at h
    by_cases e : a < x.first
    · rw [if_pos e] at h
      obtain rfl := Option.some.inj h
      refine ⟨⟨by simp, h2, h3, h4.lower (by unfold endOf; simp only; omega)⟩, ?_⟩
      unfold packL
      rw [if_neg (by omega)]
      simp
    · rw [if_neg e] at h
      have ea : x.first = a := by omega
      cases h6 : stepL (endOf x) l with
      | none => rw [h6] at h; cases h
      | some r =>
        rw [h6] at h
        obtain rfl := Option.some.inj h
        obtain ⟨k1, k2⟩ := step_some h4 h6
        refine ⟨⟨h1, h2, h3, k1⟩, ?_⟩
        have e2 : a + manyOf x.m = endOf x := by unfold endOf; omega
        show packL a (x :: l) = ((packL a (x :: r)).1, _)
        unfold packL
        rw [e2, k2, if_pos ea]; simp
theorem pack_le : ∀ {l : List Plc} {a : Int}, (packL a l).2 ≤ l.length
  | [], _ => Nat.le_refl _
  | x :: l, a => by
    unfold packL
    have := pack_le (l := l) (a := a + manyOf x.m)
    rw [List.length_cons]
    show (packL (a + manyOf x.m) l).2 + _ ≤ _
    split <;> omega
theorem pack_mods : ∀ {l : List Plc} {a : Int}, (packL a l).1.map (·.m) = l.map (·.m)
  | [], _ => rfl
  | x :: l, a => by
    show x.m :: (packL (a + manyOf x.m) l).1.map (·.m) = _
    rw [pack_mods]; rfl
theorem step_mods : ∀ {l l' : List Plc} {a : Int}, stepL a l = some l' → l'.map (·.m) = l.map (·.m)
  | [], _, _, h => by cases h
  | x :: l, l', a, h => by
    unfold stepL at h
    by_cases e : a < x.first
    · rw [if_pos e] at h
      obtain rfl := Option.some.inj h
      rfl
    · rw [if_neg e] at h
      cases h6 : stepL (endOf x) l with
      | none => rw [h6] at h; cases h
      | some r =>
        rw [h6] at h
        obtain rfl := Option.some.inj h
        show x.m :: r.map (·.m) = _
        rw [step_mods h6]; rfl
theorem pack_row : ∀ {l : List Plc} {a : Int}, Row16 a l → Row16 a (packL a l).1
  | [], _, h => h
  | x :: l, a, ⟨h1, h2, h3, h4⟩ => by
    refine ⟨by simp, h2, h3, ?_⟩
    have := pack_row (h4.lower (b := a + manyOf x.m) (by unfold endOf; omega))
    exact this
theorem pack_again : ∀ {l : List Plc} {a : Int}, packL a (packL a l).1 = ((packL a l).1, 0)
  | [], _ => rfl
  | x :: l, a => by
    show packL a (⟨x.m, a⟩ :: (packL (a + manyOf x.m) l).1) = _
    unfold packL
    simp only [pack_again, if_true]
theorem step_packed : ∀ {l : List Plc} {a : Int}, stepL a (packL a l).1 = none
  | [], _ => rfl
  | x :: l, a => by
    show stepL a (⟨x.m, a⟩ :: (packL (a + manyOf x.m) l).1) = none
    unfold stepL
    have e : endOf ⟨x.m, a⟩ = a + manyOf x.m := rfl
    rw [if_neg (by simp), e, step_packed]; rfl
/-- behind all steps, what is free begins at the end of all -/
theorem pack_runs : ∀ {l : List Plc} {a : Int}, runsFrom a (packL a l).1 = gapRun (a + sumMods l) 16
  | [], a => by show gapRun a 16 = _; simp [sumMods]
  | x :: l, a => by
    show gapRun a a ++ runsFrom (endOf ⟨x.m, a⟩) (packL (a + manyOf x.m) l).1 = _
    have e : endOf ⟨x.m, a⟩ = a + manyOf x.m := rfl
    rw [e, pack_runs]
    have e2 : gapRun a a = [] := by unfold gapRun; rw [if_neg (by omega)]
    rw [e2, List.nil_append]
    show gapRun (a + manyOf x.m + sumMods l) 16 = gapRun (a + (manyOf x.m + sumMods l)) 16
    rw [Int.add_assoc]
theorem step_first : ∀ {l l' : List Plc} {a : Int}, Row16 a l → stepL a l = some l' → ∀ i (h : i < l.length) (h' : i < l'.length), l'[i].first ≤ l[i].first
  | [], _, _, _, h => by cases h
  | x :: l, l', a, ⟨h1, h2, h3, h4⟩, h => by
    unfold stepL at h
    by_cases e : a < x.first
    · rw [if_pos e] at h
      obtain rfl := Option.some.inj h
      intro i hi hi'
      cases i with
      | zero => simp; omega
      | succ i => simp
    · rw [if_neg e] at h
      cases h6 : stepL (endOf x) l with
      | none => rw [h6] at h; cases h
      | some r =>
        rw [h6] at h
        obtain rfl := Option.some.inj h
        intro i hi hi'
        cases i with
        | zero => simp
        | succ i => simp only [List.getElem_cons_succ]; exact step_first h4 h6 i _ _

/-! ### what is moved is as right as it was -/
theorem at_mods {l l' : List Plc} (h : l.map (·.m) = l'.map (·.m)) (i : Nat) : (l[i]?).map (·.m) = (l'[i]?).map (·.m) := by
  have := congrArg (·[i]?) h
  simpa using this
theorem len_mods {l l' : List Plc} (h : l.map (·.m) = l'.map (·.m)) : l.length = l'.length := by
  have := congrArg List.length h
  simpa using this
theorem txs_mods {l l' : List Plc} (h : l.map (·.m) = l'.map (·.m)) : txs l = txs l' := by
  have e : ∀ r : List Plc, txs r = (r.map (·.m)).map fun m => tx m.name := fun r => by unfold txs; rw [List.map_map]; rfl
  rw [e, e, h]
theorem dirN_mods {l l' : List Plc} (h : l.map (·.m) = l'.map (·.m)) : dirN l = dirN l' := by
  funext i k
  have := at_mods h i
  unfold dirN
  rw [txs_mods h]
  cases h1 : l[i]? <;> cases h2 : l'[i]? <;> rw [h1, h2] at this
  · cases this
  · cases this
  · have := Option.some.inj this
    simp only [this]
theorem isRound_mods {l l' : List Plc} (h : l.map (·.m) = l'.map (·.m)) : isRound l = isRound l' := by
  unfold isRound tabOf; rw [dirN_mods h, len_mods h]
theorem isTwice_mods {l l' : List Plc} (h : l.map (·.m) = l'.map (·.m)) : isTwice l = isTwice l' := by
  unfold isTwice; rw [txs_mods h, len_mods h]
theorem find_mods : ∀ {l l' : List Plc}, l.map (·.m) = l'.map (·.m) → ∀ nm, (l.find? (named nm) = none ∧ l'.find? (named nm) = none) ∨ ∃ x ∈ l, ∃ x' ∈ l', x.m = x'.m ∧ l.find? (named nm) = some x ∧ l'.find? (named nm) = some x'
  | [], [], _, _ => .inl ⟨rfl, rfl⟩
  | [], _ :: _, h, _ => by cases h
  | _ :: _, [], h, _ => by cases h
  | x :: l, x' :: l', h, nm => by
    rw [List.map_cons, List.map_cons] at h
    injection h with h1 h2
    have hq : named nm x' = named nm x := by unfold named; rw [h1]
    rw [List.find?_cons, List.find?_cons, hq]
    cases hn : named nm x
    · rcases find_mods h2 nm with h3 | ⟨y, hy, y', hy', h3, h4, h5⟩
      · exact .inl h3
      · exact .inr ⟨y, List.mem_cons_of_mem _ hy, y', List.mem_cons_of_mem _ hy', h3, h4, h5⟩
    · exact .inr ⟨x, List.mem_cons_self .., x', List.mem_cons_self .., h1, rfl, rfl⟩
/-- two addresses that a patch cannot tell apart by what is wrong -/
def Alike (a b : Int) : Prop := 0 ≤ a ∧ a ≤ 65535 ∧ 0 ≤ b ∧ b ≤ 65535 ∧ (b - a) % 2 = 0
theorem expAt_in {l : List Exp} {nm : ByteArray} {most : Int} (h : ∀ x ∈ l, 0 ≤ x.at_ ∧ x.at_ < most) (h0 : 0 < most) : 0 ≤ (expAt l nm).1 ∧ (expAt l nm).1 < most := by
  unfold expAt
  cases e : l.find? (called nm) with
  | none => exact ⟨Int.le_refl _, h0⟩
  | some x => exact h x (List.mem_of_find?_eq_some e)
theorem addr_alike {k : Krn} {l l' : List Plc} (h : l.map (·.m) = l'.map (·.m)) (hk : ∀ x ∈ k.ex, 0 ≤ x.at_ ∧ x.at_ < 4096) (hm : ∀ x ∈ l, ∀ y ∈ x.m.ex, 0 ≤ y.at_ ∧ y.at_ < 256) (hf : ∀ x ∈ l, 0 ≤ x.first ∧ x.first ≤ 15) (hf' : ∀ x ∈ l', 0 ≤ x.first ∧ x.first ≤ 15) (i : Imp) :
    (addrOf k l' i).2 = (addrOf k l i).2 ∧ Alike (addrOf k l i).1 (addrOf k l' i).1 := by
  unfold addrOf
  by_cases h0 : i.mod = kernelBytes
  · rw [if_pos h0, if_pos h0]
    refine ⟨rfl, ?_⟩
    split
    · exact ⟨by simp, by simp, by simp, by simp, by simp⟩
    · have := expAt_in (nm := i.name) hk (by omega)
      exact ⟨by omega, by omega, by omega, by omega, by omega⟩
  · rw [if_neg h0, if_neg h0]
    rcases find_mods h i.mod with ⟨h1, h2⟩ | ⟨x, hx, x', hx', h1, h2, h3⟩
    · rw [h1, h2]
      exact ⟨rfl, by simp, by simp, by simp, by simp, by simp⟩
    · rw [h2, h3]
      simp only [← h1]
      have f1 := hf x hx
      have f2 := hf' x' hx'
      have f3 := expAt_in (nm := i.name) (hm x hx) (by omega)
      split
      · exact ⟨rfl, by simp, by simp, by simp, by simp, by simp⟩
      · split
        · exact ⟨rfl, by simp, by simp, by simp, by simp, by simp⟩
        · refine ⟨rfl, ?_⟩
          show Alike (4096 + 64 * x.first + _) (4096 + 64 * x'.first + _)
          exact ⟨by omega, by omega, by omega, by omega, by omega⟩
def AlikeL : List Int → List Int → Prop
  | [], [] => True
  | a :: l, b :: r => Alike a b ∧ AlikeL l r
  | _, _ => False
theorem alike_get : ∀ {l r : List Int} (i : Nat), AlikeL l r → Alike (l.getD i 0) (r.getD i 0)
  | [], [], i, _ => by simp [Alike]
  | a :: l, b :: r, 0, h => by simpa using h.1
  | a :: l, b :: r, i + 1, h => by simpa using alike_get i h.2
  | [], _ :: _, _, h => h.elim
  | _ :: _, [], _, h => h.elim
theorem addrs_alike {k : Krn} {l l' : List Plc} (hh : ∀ i, (addrOf k l' i).2 = (addrOf k l i).2 ∧ Alike (addrOf k l i).1 (addrOf k l' i).1) : ∀ r, (addrsOf k l r).2 = 0 → (addrsOf k l' r).2 = 0 ∧ AlikeL (addrsOf k l r).1 (addrsOf k l' r).1
  | [], _ => ⟨rfl, trivial⟩
  | i :: r, h => by
    obtain ⟨h1, h2⟩ := hh i
    unfold addrsOf at h ⊢
    by_cases e1 : (addrOf k l i).2 = 0
    · rw [if_neg (by omega)] at h
      by_cases e2 : (addrsOf k l r).2 = 0
      · obtain ⟨h3, h4⟩ := addrs_alike hh r e2
        rw [if_neg (by omega), if_neg (by omega), if_neg (by omega), if_neg (by omega)]
        exact ⟨rfl, h2, h4⟩
      · rw [if_pos e2] at h; exact absurd h e2
    · rw [if_pos e1] at h; exact absurd h e1
theorem apply_alike {z kind at_ add s s' b b' : Int} (hs : Alike s s') (hb : (b' - b) % 2 = 0) (h0 : 4096 ≤ b' ∧ b' ≤ 5056) (hz : z ≤ 256) (h : applyErr z kind at_ add s b = 0) : applyErr z kind at_ add s' b' = 0 := by
  obtain ⟨s1, s2, s3, s4, s5⟩ := hs
  have hw := widthOf_cases kind
  unfold applyErr valueErr at h ⊢
  by_cases e1 : widthOf kind = 0
  · rw [if_pos e1] at h; omega
  · rw [if_neg e1] at h ⊢
    by_cases e2 : add < 0 ∨ 65535 < add ∨ at_ < 0 ∨ z - widthOf kind < at_ ∨ b < 0 ∨ 65279 < b
    · rw [if_pos e2] at h; omega
    · rw [if_neg e2, if_neg e1] at h
      rw [if_neg (by omega), if_neg e1]
      by_cases e3 : s < 0 ∨ 65535 < s ∨ b + at_ < 0 ∨ 65535 < b + at_ ∨ add < 0 ∨ 65535 < add
      · rw [if_pos e3] at h; omega
      · rw [if_neg e3] at h
        rw [if_neg (by omega)]
        by_cases e4 : kind = 5 ∧ (s + add - (b + at_)) % 2 = 1
        · rw [if_pos e4] at h; omega
        · rw [if_neg (by omega)]
theorem patch_alike {av av' : List Int} {b b' : Int} (ha : AlikeL av av') (hb : (b' - b) % 2 = 0) (h1 : 0 ≤ b ∧ b ≤ 65535) (h0 : 4096 ≤ b' ∧ b' ≤ 5056) : ∀ {r : List Pat} {s s' : ByteArray}, s.size ≤ 256 → s'.size = s.size → (patchAll av b r s).2 = 0 → (patchAll av' b' r s').2 = 0
  | [], _, _, _, _, _ => rfl
  | p :: r, s, s', hz, hs, h => by
    unfold patchAll at h ⊢
    by_cases e : applyErr s.size p.kind p.at_ p.add (symOf av b p) b = 0
    · rw [if_neg (by omega)] at h
      have hy : Alike (symOf av b p) (symOf av' b' p) := by
        unfold symOf
        by_cases k : p.sym < 0
        · rw [if_pos k, if_pos k]; exact ⟨by omega, by omega, by omega, by omega, by omega⟩
        · rw [if_neg k, if_neg k]; exact alike_get _ ha
      have e' : applyErr s'.size p.kind p.at_ p.add (symOf av' b' p) b' = 0 := by rw [hs]; exact apply_alike hy hb h0 (by omega) e
      rw [if_neg (by omega)]
      exact patch_alike ha hb h1 h0 (by rw [applyStr_size e]; exact hz) (by rw [applyStr_size e', applyStr_size e, hs]) h
    · rw [if_pos e] at h; exact absurd h e
theorem img_alike {k : Krn} {l l' : List Plc} (hh : ∀ i, (addrOf k l' i).2 = (addrOf k l i).2 ∧ Alike (addrOf k l i).1 (addrOf k l' i).1) {x x' : Plc} (hx : x.m = x'.m) (h1 : 0 ≤ x.first ∧ x.first ≤ 15) (h2 : 0 ≤ x'.first ∧ x'.first ≤ 15) (hz : x.m.text.size ≤ 256) (h : (imgOf k l x).2 = 0) : (imgOf k l' x').2 = 0 := by
  unfold imgOf at h ⊢
  rw [← hx]
  by_cases e1 : (addrsOf k l x.m.im).2 = 0
  · rw [if_neg (by omega)] at h
    obtain ⟨e2, e3⟩ := addrs_alike hh _ e1
    rw [if_neg (by omega)]
    by_cases e4 : (patchAll (addrsOf k l x.m.im).1 (baseOf x) x.m.pa x.m.text).2 = 0
    · have b1 : baseOf x = 4096 + 64 * x.first := rfl
      have b2 : baseOf x' = 4096 + 64 * x'.first := rfl
      rw [if_neg (fun q => q (patch_alike e3 (by omega) (by omega) (by omega) hz rfl e4))]
    · rw [if_pos e4] at h; exact absurd h e4
  · rw [if_pos e1] at h; exact absurd h e1
theorem area_all {k : Krn} {l : List Plc} : ∀ {r : List Plc} {a : Int}, (areaGo k l r a).2 = 0 ↔ ∀ x ∈ r, (imgOf k l x).2 = 0
  | [], _ => by simp [areaGo]
  | x :: r, a => by
    unfold areaGo
    by_cases e : (imgOf k l x).2 = 0
    · rw [if_neg (by omega)]
      have := area_all (k := k) (l := l) (r := r) (a := endOf x)
      constructor
      · intro h
        by_cases e2 : (areaGo k l r (endOf x)).2 = 0
        · intro y hy
          rcases List.mem_cons.1 hy with rfl | hy
          · exact e
          · exact this.1 e2 y hy
        · rw [if_pos e2] at h; exact absurd h e2
      · intro h
        rw [if_neg (fun q => q (this.2 fun y hy => h y (List.mem_cons_of_mem _ hy)))]
    · rw [if_pos e]
      exact ⟨fun h => absurd h e, fun h => absurd (h x (List.mem_cons_self ..)) e⟩
theorem first_rng {l : List Plc} (h : regErr l = 0) : ∀ x ∈ l, 0 ≤ x.first ∧ x.first ≤ 15 := fun x hx => by
  obtain ⟨h1, h2⟩ := (reg_row h).2.1 x hx
  have := many_ok h1
  simp only [regQ, Bool.and_eq_true, decide_eq_true_eq] at h2
  omega
theorem mods_mem {l l' : List Plc} (h : l.map (·.m) = l'.map (·.m)) {x : Plc} (hx : x ∈ l') : ∃ y ∈ l, y.m = x.m := by
  have : x.m ∈ l.map (·.m) := by rw [h]; exact List.mem_map_of_mem hx
  obtain ⟨y, hy, e⟩ := List.mem_map.1 this
  exact ⟨y, hy, e⟩
theorem rgErr_moved {k : Krn} {l l' : List Plc} (h : rgErr k l = 0) (hm : l.map (·.m) = l'.map (·.m)) (hr : Row16 0 l') : rgErr k l' = 0 := by
  obtain ⟨h1, h2, h3⟩ := rgErr_ok h
  obtain ⟨k1, k2, k3, _⟩ := linkErr_ok h1
  have r0 := reg_row k2
  have hf' : ∀ x ∈ l', 0 ≤ x.first ∧ endOf x ≤ 16 := by
    have : ∀ {r : List Plc} {a : Int}, Row16 a r → ∀ x ∈ r, a ≤ x.first ∧ endOf x ≤ 16 := by
      intro r
      induction r with
      | nil => intro a _ x hx; cases hx
      | cons y r ih =>
        intro a ⟨g1, g2, g3, g4⟩ x hx
        rcases List.mem_cons.1 hx with rfl | hx
        · exact ⟨g1, g4.le⟩
        · have := ih g4 x hx
          have e : endOf y = y.first + manyOf y.m := rfl
          exact ⟨by omega, this.2⟩
    exact this hr
  have hreg : regErr l' = 0 := reg_of (by rw [← len_mods hm]; exact r0.1) (fun x hx => by
    obtain ⟨y, hy, e⟩ := mods_mem hm hx
    obtain ⟨f1, f2⟩ := hf' x hx
    have e2 : endOf x = x.first + manyOf x.m := rfl
    refine ⟨e ▸ (r0.2.1 y hy).1, ?_⟩
    simp only [regQ, Bool.and_eq_true, decide_eq_true_eq]
    omega) hr
  have hl : linkErr k l' = 0 := by
    unfold linkErr
    rw [k1, hreg, ← isTwice_mods hm, k3]; rfl
  unfold rgErr
  rw [if_neg (by omega), ← isRound_mods hm, h2, if_neg (by simp)]
  have hh := fun i => addr_alike hm (fun x hx => (krn_ok k1 x hx).2) (fun x hx y hy => by
    have q := modErr_facts (r0.2.1 x hx).1
    have q3 := q.2.2.1
    have := expErr_ok q.2.2.2.2.2.2.2.2.1 y hy
    omega) (first_rng k2) (first_rng hreg) i (k := k)
  refine area_all.2 fun x hx => ?_
  have e0 : ∀ i (hi : i < l.length) (hi' : i < l'.length), (l[i]).m = (l'[i]).m := fun i hi hi' => by
    have := at_mods hm i
    rw [List.getElem?_eq_getElem hi, List.getElem?_eq_getElem hi'] at this
    exact Option.some.inj this
  obtain ⟨i, hi, rfl⟩ := List.getElem_of_mem hx
  have hi2 : i < l.length := by rw [len_mods hm]; exact hi
  exact img_alike hh (e0 i hi2 hi) (first_rng k2 _ (List.getElem_mem _)) (first_rng hreg _ (List.getElem_mem _)) (modErr_facts (r0.2.1 _ (List.getElem_mem hi2)).1).2.2.1 (area_all.1 h3 _ (List.getElem_mem hi2))

end Go.Proofs.YtogckcjcebckgaaGreat
end
