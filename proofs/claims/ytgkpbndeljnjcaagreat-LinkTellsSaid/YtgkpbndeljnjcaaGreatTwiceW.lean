import Derived.Test.YtgkpbndeljnjcaaGreatRAddrW
import Derived.Test.YtgkpbndeljnjcaaGreatGrPure
/- Have two modules one name? as the document tells it (chapter E): shipfitterref.IsTwice. -/
namespace Go.Proofs.YtgkpbndeljnjcaaGreat
open Go.RowKit
open Gs (Tx)

theorem place_ge {l : List Plc} (hn : (txs l).Nodup) {i : Nat} (hi : i < l.length) : idxOf (named l[i].m.name) l = i := by
  refine idxOf_some hi (fun k hk hki => ?_) (by simp [named])
  unfold named
  refine decide_eq_false (fun e => ?_)
  have := nodup_one hn k i hk hi (by rw [nmN_at hk, nmN_at hi, e])
  omega
theorem twice_at {l : List Plc} {i : Nat} (hi : i < l.length) (h : idxOf (named l[i].m.name) l < i) : isTwice l = true := by
  rw [twice_nodup]
  intro hn
  rw [place_ge hn hi] at h; omega
theorem twice_no {l : List Plc} (h : ∀ i (hi : i < l.length), ¬ idxOf (named l[i].m.name) l < i) : isTwice l = false := by
  cases e : isTwice l
  · rfl
  · rw [twice_nodup] at e
    refine absurd ?_ e
    refine List.pairwise_iff_getElem.2 (fun i j hi hj hij en => ?_)
    rw [txs_length] at hi hj
    have e1 := txs_at hi
    have e2 := txs_at hj
    rw [e1, e2] at en
    have en := tx_inj en
    refine h j hj ?_
    rcases idxOf_cases (named l[j].m.name) l with ⟨_, hno⟩ | ⟨q, hq, eq, _, hmin⟩
    · have := hno l[j] (List.getElem_mem _); simp [named] at this
    · rw [eq]
      have : ¬ i < q := fun hlt => by have := hmin i hi hlt; simp [named, en] at this
      omega
set_option maxHeartbeats 2000000 in
set_option maxRecDepth 100000 in
theorem IsTwice_any (A : Option Addr) (c : Nat) (l : List Plc) (w : World) (h : Row Plc.cells 8 w A l) (hl : l.length ≤ big) :
    Calls Tryz.prog 20 #[.slice A l.length c] w fun e w' => e = .returned (.bool (isTwice l)) ∧ Below w.heap.size w w' := by
  have HL := Lib.hid hl
  unfold big at hl
  have HP := Lib.hid h
  clear h
  obtain ⟨R, hR⟩ : ∃ R, R = isTwice l := ⟨_, rfl⟩
  rw [← hR]
  have HR := Lib.hid hR
  clear hR
  go_enter Tryz.func20, Tryz.ntmps20
  go_wp2_with fail
  go_loopw [3] (fun i wr => ∃ j : Nat, j ≤ l.length ∧ i = .int .i64 j ∧ (∀ k (hk : k < l.length), k < j → (k : Int) ≤ idxOf (named l[k].m.name) l) ∧ Below w.heap.size w wr) (fun i _ => l.length - (intOf i).toNat)
  case atStart => exact ⟨0, by omega, rfl, by omega, Below.refl _ _⟩
  case round =>
    obtain ⟨j, hj, rfl, hN, hb⟩ := hrel
    have HN := Lib.hid hN
    have HB := Lib.hid hb
    clear hN
    by_cases hlt : j < l.length
    · have hlt' : (j : Int) < l.length := by omega
      have hpl := PlaceOf_any A c l l[j].m.name wr (HP.out.below hb) HL.out
      obtain ⟨ad, rfl, hab, h0, h1, h2, h3, h4, h5, h6, h7⟩ := plc_at HP.out hb j hlt
      obtain ⟨pi, hpi⟩ : ∃ pi, pi = idxOf (named l[j].m.name) l := ⟨_, rfl⟩
      rw [← hpi] at hpl
      have c1 := Lib.hid hpl
      clear hb hpl
      by_cases he : pi < j
      · have hrr := Lib.hid (show R = true by rw [HR.out]; exact twice_at hlt (by omega))
        clear hpi
        go_wp2_with (go_at_call 7; refine (c1.out).mono ?_; rintro e w3 ⟨rfl, hb3⟩)
        go_ret
        exact ⟨ret_bool hrr.out.symm, HB.out.trans (hb3.mono HB.out.size)⟩
      · have HEE := Lib.hid (show (j : Int) ≤ idxOf (named l[j].m.name) l by omega)
        have he' : decide (pi < j) = false := by simp; omega
        clear hpi he
        go_wp2_with (go_at_call 7; refine (c1.out).mono ?_; rintro e w3 ⟨rfl, hb3⟩)
        go_roundw
        case rel => exact ⟨j + 1, by omega, by go_num, fun k hk hkj => by rcases Nat.lt_succ_iff_lt_or_eq.1 hkj with h | rfl; exact HN.out k hk h; exact HEE.out, HB.out.trans (hb3.mono HB.out.size)⟩
        case measure => (simp [intOf]; try omega)
    · have hrr := Lib.hid (show R = false by rw [HR.out]; exact twice_no (fun i hi => by have := HN.out i hi (by omega); omega))
      clear hb
      go_wp2_with fail
      go_ret
      exact ⟨ret_bool hrr.out.symm, HB.out⟩

end Go.Proofs.YtgkpbndeljnjcaaGreat
