import Derived.Test.YtgkpbndeljnjcaaRAddrW
import Derived.Test.YtgkpbndeljnjcaaGrSortW
/- What the document says of the graph, small parts (chapter E): textLess, SameTexts, Direct, IsTwice; the laws' has, checkGraph. -/
namespace Go.Proofs.Ytgkpbndeljnjcaa
open Go.RowKit Go.Lib Go.Sort
open Gs (Tx)

theorem less_step {a b : Tx} {j : Nat} (h1 : j < a.length) (h2 : j < b.length) (he : a[j] = b[j]) : Gs.less (a.drop j) (b.drop j) = Gs.less (a.drop (j + 1)) (b.drop (j + 1)) := by
  rw [List.drop_eq_getElem_cons h1, List.drop_eq_getElem_cons h2, Gs.less, if_pos he]
theorem less_diff {a b : Tx} {j : Nat} (h1 : j < a.length) (h2 : j < b.length) (he : a[j] ≠ b[j]) : Gs.less (a.drop j) (b.drop j) = decide (a[j] < b[j]) := by
  rw [List.drop_eq_getElem_cons h1, List.drop_eq_getElem_cons h2, Gs.less, if_neg he]
theorem less_end {a b : Tx} {j : Nat} (h0 : j ≤ a.length) (h0' : j ≤ b.length) (h : ¬ (j < a.length ∧ j < b.length)) : Gs.less (a.drop j) (b.drop j) = decide (a.length < b.length) := by
  by_cases h1 : j < a.length
  · have h2 : ¬ j < b.length := fun k => h ⟨h1, k⟩
    rw [List.drop_eq_getElem_cons h1, show b.drop j = [] from List.drop_eq_nil_of_le (by omega)]
    unfold Gs.less
    simp; omega
  · rw [show a.drop j = [] from List.drop_eq_nil_of_le (by omega)]
    cases hd : b.drop j with
    | nil =>
      have := List.drop_eq_nil_iff.1 hd
      unfold Gs.less; simp; omega
    | cons x r =>
      have : (b.drop j).length = r.length + 1 := by rw [hd]; rfl
      rw [List.length_drop] at this
      unfold Gs.less; simp; omega
set_option maxHeartbeats 2000000 in
set_option maxRecDepth 100000 in
theorem textLess_any (a b : ByteArray) (w : World) (ha : a.size ≤ big) (hb : b.size ≤ big) :
    Calls Try.prog 34 #[.string a, .string b] w fun e w' => e = .returned (.bool (Gs.less (tx a) (tx b))) ∧ ∃ q, w' = w.drewN q := by
  unfold big at ha hb
  obtain ⟨R, hR⟩ : ∃ R, R = Gs.less (tx a) (tx b) := ⟨_, rfl⟩
  rw [← hR]
  have HR := Lib.hid hR
  clear hR
  have la : (tx a).length = a.size := rfl
  have lb : (tx b).length = b.size := rfl
  have LA := Lib.hid la
  have LB := Lib.hid lb
  clear la lb
  go_enter Try.func34, Try.ntmps34
  go_wp2_with fail
  go_loopw [5] (fun i wr => ∃ j q : Nat, j ≤ a.size ∧ j ≤ b.size ∧ i = .int .i64 j ∧ Gs.less ((tx a).drop j) ((tx b).drop j) = R ∧ wr = w.drewN q) (fun i _ => a.size - (intOf i).toNat)
  case atStart => exact ⟨0, 0, by omega, by omega, rfl, HR.out.symm, rfl⟩
  case round =>
    obtain ⟨j, q, hja, hjb, rfl, hE, rfl⟩ := hrel
    have HE := Lib.hid hE
    clear hE
    by_cases h1 : j < a.size
    · have h1' : (j : Int) < a.size := by omega
      by_cases h2 : j < b.size
      · have h2' : (j : Int) < b.size := by omega
        have ea : (tx a)[j]'(by rw [LA.out]; exact h1) = a[j] := rfl
        have eb : (tx b)[j]'(by rw [LB.out]; exact h2) = b[j] := rfl
        have S := Lib.hid (less_step (a := tx a) (b := tx b) (by rw [LA.out]; exact h1) (by rw [LB.out]; exact h2))
        have D := Lib.hid (less_diff (a := tx a) (b := tx b) (by rw [LA.out]; exact h1) (by rw [LB.out]; exact h2))
        rw [ea, eb] at S D
        clear ea eb
        by_cases he : a[j] = b[j]
        · have he' : ((a[j].toNat : Int) != (b[j].toNat : Int)) = false := by rw [he]; simp
          have e1 := Lib.hid ((S.out he).symm.trans HE.out)
          clear he
          go_wp2_with fail
          go_quiet (fail)
          go_wp2_with fail
          go_roundw
          case rel => exact ⟨j + 1, _, by omega, by omega, by go_num, e1.out, rfl⟩
          case measure => (simp [intOf]; try omega)
        · have he' : ((a[j].toNat : Int) != (b[j].toNat : Int)) = true := by
            simp only [bne_iff_ne, ne_eq]
            intro h; exact he (UInt8.toNat_inj.1 (by omega))
          have e1 := Lib.hid ((D.out he).symm.trans HE.out)
          have e2 := Lib.hid (show decide ((a[j].toNat : Int) < (b[j].toNat : Int)) = decide (a[j] < b[j]) by simp [UInt8.lt_iff_toNat_lt])
          clear he
          go_wp2_with fail
          go_quiet (fail)
          go_wp2_with fail
          go_quiet (fail)
          go_wp2_with fail
          go_ret
          exact ⟨ret_bool (by first | exact e2.out.trans e1.out | simpa using e2.out.trans e1.out), ⟨_, by rw [World.drewN_drewN, World.drewN_drewN]⟩⟩
      · have h2' : decide (j < b.size) = false := by simp; omega
        have e1 := Lib.hid ((less_end (a := tx a) (b := tx b) hja hjb (fun h => h2 h.2)).symm.trans HE.out)
        rw [LA.out, LB.out] at e1
        clear h2
        go_wp2_with fail
        go_ret
        exact ⟨ret_bool (by first | exact e1.out | simpa using e1.out), ⟨_, rfl⟩⟩
    · have h1' : decide (j < a.size) = false := by simp; omega
      have e1 := Lib.hid ((less_end (a := tx a) (b := tx b) hja hjb (fun h => h1 h.1)).symm.trans HE.out)
      rw [LA.out, LB.out] at e1
      clear h1
      go_wp2_with fail
      go_ret
      exact ⟨ret_bool (by first | exact e1.out | simpa using e1.out), ⟨_, rfl⟩⟩

set_option maxHeartbeats 2000000 in
set_option maxRecDepth 100000 in
theorem has_any (A : Option Addr) (c : Nat) (l : List Tx) (t : ByteArray) (w : World) (h : TxRow w A l) (hl : l.length ≤ big) :
    Calls Try.prog 19 #[.slice A l.length c, .string t] w fun e w' => e = .returned (.bool (decide (tx t ∈ l))) ∧ ∃ q, w' = w.drewN q := by
  unfold big at hl
  have HP := Lib.hid h
  clear h
  obtain ⟨R, hR⟩ : ∃ R, R = decide (tx t ∈ l) := ⟨_, rfl⟩
  rw [← hR]
  have HR := Lib.hid hR
  clear hR
  go_enter Try.func19, Try.ntmps19
  go_wp2_with fail
  go_loopw [5] (fun i wr => ∃ j : Nat, j ≤ l.length ∧ i = .int .i64 j ∧ (∀ k (hk : k < l.length), k < j → l[k] ≠ tx t) ∧ wr = w) (fun i _ => l.length - (intOf i).toNat)
  case atStart => exact ⟨0, by omega, rfl, by omega, rfl⟩
  case round =>
    obtain ⟨j, hj, rfl, hN, rfl⟩ := hrel
    have HN := Lib.hid hN
    clear hN
    by_cases hlt : j < l.length
    · have hlt' : (j : Int) < l.length := by omega
      obtain ⟨ad, rfl, hab, h0⟩ := tx_at HP.out (Below.refl _ _) j hlt
      obtain ⟨s, hs⟩ : ∃ s, s = bs l[j] := ⟨_, rfl⟩
      rw [← hs] at h0
      have HSS := Lib.hid hs
      clear hs
      by_cases he : s = t
      · have he' := str_eq he
        have hrr := Lib.hid (show R = true by rw [HR.out]; exact decide_eq_true (by rw [← he, HSS.out, tx_bs]; exact List.getElem_mem _))
        clear he
        go_wp2_with fail
        go_ret
        exact ⟨ret_bool hrr.out.symm, 0, rfl⟩
      · have he' := str_ne he
        have HEE := Lib.hid (show l[j] ≠ tx t from fun e => he (by rw [HSS.out, e, bs_tx]))
        clear he
        go_wp2_with fail
        go_roundw
        case rel => exact ⟨j + 1, by omega, by go_num, fun k hk hkj => by rcases Nat.lt_succ_iff_lt_or_eq.1 hkj with h | rfl; exact HN.out k hk h; exact HEE.out, trivial⟩
        case measure => (simp [intOf]; try omega)
    · have hrr := Lib.hid (show R = false by
        rw [HR.out]
        refine decide_eq_false (fun hm => ?_)
        obtain ⟨k, hk, e⟩ := List.getElem_of_mem hm
        exact HN.out k hk (by omega) e)
      go_wp2_with fail
      go_ret
      exact ⟨ret_bool hrr.out.symm, 0, rfl⟩

set_option maxHeartbeats 2000000 in
set_option maxRecDepth 100000 in
theorem SameTexts_any (A B : Option Addr) (c d : Nat) (l r : List Tx) (w : World) (h : TxRow w A l) (h' : TxRow w B r) (hl : l.length ≤ big) (hr : r.length ≤ big) :
    Calls Try.prog 18 #[.slice A l.length c, .slice B r.length d] w fun e w' => e = .returned (.bool (decide (l = r))) ∧ Below w.heap.size w w' := by
  unfold big at hl hr
  have HL := Lib.hid h
  have HR := Lib.hid h'
  clear h h'
  obtain ⟨R, hR⟩ : ∃ R, R = decide (l = r) := ⟨_, rfl⟩
  rw [← hR]
  have HD := Lib.hid hR
  clear hR
  by_cases hlen : l.length = r.length
  · have hlen' : ((l.length : Int) != r.length) = false := by simp; omega
    have HLN := Lib.hid hlen
    clear hlen
    go_enter Try.func18, Try.ntmps18
    go_wp2_with fail
    go_loopw [5] (fun i wr => ∃ j : Nat, j ≤ l.length ∧ i = .int .i64 j ∧ (∀ k (hk : k < l.length) (hk' : k < r.length), k < j → l[k] = r[k]) ∧ Below w.heap.size w wr) (fun i _ => l.length - (intOf i).toNat)
    case atStart => exact ⟨0, by omega, rfl, by omega, Below.refl _ _⟩
    case round =>
      obtain ⟨j, hj, rfl, hN, hb⟩ := hrel
      have HN := Lib.hid hN
      have HB := Lib.hid hb
      clear hN
      have hln := HLN.out
      by_cases hlt : j < l.length
      · have hltr : j < r.length := by omega
        have hlt' : (j : Int) < l.length := by omega
        have hlt'' : (j : Int) < r.length := by omega
        obtain ⟨ad, rfl, hab, h0⟩ := tx_at HL.out hb j hlt
        obtain ⟨bd, rfl, hbb, h1⟩ := tx_at HR.out hb j hltr
        obtain ⟨s, hs⟩ : ∃ s, s = bs l[j] := ⟨_, rfl⟩
        obtain ⟨t, ht⟩ : ∃ t, t = bs r[j] := ⟨_, rfl⟩
        rw [← hs] at h0
        rw [← ht] at h1
        clear hb hln
        by_cases he : l[j] = r[j]
        · have he' : (s.toList == t.toList) = true := by rw [hs, ht, he]; simp
          clear hs ht
          have HE := Lib.hid he
          clear he
          go_wp2_with fail
          go_quiet (fail)
          go_wp2_with fail
          go_roundw
          case rel => exact ⟨j + 1, by omega, by go_num, fun k hk hk' hkj => by rcases Nat.lt_succ_iff_lt_or_eq.1 hkj with h | rfl; exact HN.out k hk hk' h; exact HE.out, below_drewN HB.out _⟩
          case measure => (simp [intOf]; try omega)
        · have he' : (s.toList == t.toList) = false := str_ne (a := s) (b := t) (fun e => he (by rw [← tx_bs l[j], ← hs, e, ht, tx_bs]))
          clear hs ht
          have hne := Lib.hid (show R = false by rw [HD.out]; simp only [decide_eq_false_iff_not]; rintro rfl; exact he rfl)
          clear he
          go_wp2_with fail
          go_quiet (fail)
          go_wp2_with fail
          go_ret
          exact ⟨ret_bool hne.out.symm, below_drewN HB.out _⟩
      · have hln2 := HLN.out
        have heq := Lib.hid (show R = true by
          rw [HD.out]
          exact decide_eq_true (List.ext_getElem hln2 (fun k hk hk' => HN.out k hk hk' (by omega))))
        clear hb hln hln2
        go_wp2_with fail
        go_ret
        exact ⟨ret_bool heq.out.symm, HB.out⟩
  · have hlen' : ((l.length : Int) != r.length) = true := by simp; omega
    have hne := Lib.hid (show R = false by rw [HD.out]; simp only [decide_eq_false_iff_not]; rintro rfl; exact hlen rfl)
    clear hlen
    go_enter Try.func18, Try.ntmps18
    go_wp2_with fail
    go_ret
    exact ⟨ret_bool hne.out.symm, Below.refl _ _⟩

set_option maxHeartbeats 2000000 in
set_option maxRecDepth 100000 in
theorem Direct_any (A : Option Addr) (c : Nat) (l : List Plc) (i k : Nat) (w : World) (h : PlsOk w A l) (hi : i < l.length) (hk : k < l.length) :
    Calls Try.prog 59 #[.slice A l.length c, .int .i64 i, .int .i64 k] w fun e w' => e = .returned (.bool (asks l[i].m (tx l[k].m.name))) ∧ Below w.heap.size w w' := by
  rw [asks_any]
  have hm := h.each l[i] (List.getElem_mem _)
  have hlen := h.len
  have hml := hm.im.2.1
  unfold big at hlen hml
  obtain ⟨ad, rfl, hab, _⟩ := plc_at h.row (Below.refl _ _) i hi
  have KI := Lib.hid (fun W (hbW : Below w.heap.size w W) => plc_at h.row hbW i hi)
  have KK := Lib.hid (fun W (hbW : Below w.heap.size w W) => plc_at h.row hbW k hk)
  have HM := Lib.hid hm.im.1
  have hi' : (i : Int) < l.length := by omega
  have hk' : (k : Int) < l.length := by omega
  obtain ⟨x, hx⟩ : ∃ x, x = l[i].m := ⟨_, rfl⟩
  obtain ⟨y, hy⟩ : ∃ y, y = l[k].m := ⟨_, rfl⟩
  rw [← hx] at HM hml ⊢
  simp only [← hx] at KI
  simp only [← hy] at KK
  rw [← hy]
  obtain ⟨R, hR⟩ : ∃ R, R = x.im.any (asksQ y.name) := ⟨_, rfl⟩
  rw [← hR]
  have HR := Lib.hid hR
  clear hR hm h hx hy
  go_enter Try.func59, Try.ntmps59
  go_wp2_with fail
  go_loopw [7] (fun n wr => ∃ j : Nat, j ≤ x.im.length ∧ n = .int .i64 j ∧ (∀ q (hq : q < x.im.length), q < j → asksQ y.name x.im[q] = false) ∧ Below w.heap.size w wr) (fun i _ => x.im.length - (intOf i).toNat)
  case atStart => exact ⟨0, by omega, rfl, by omega, Below.refl _ _⟩
  case round =>
    obtain ⟨j, hj, rfl, hN, hb⟩ := hrel
    have HN := Lib.hid hN
    have HB := Lib.hid hb
    clear hN
    obtain ⟨_, ea, _, a0, a1, a2, a3, a4, a5, a6, a7⟩ := KI.out _ hb
    obtain rfl := Option.some.inj ea
    obtain ⟨_, ea, _, b0, b1, b2, b3, b4, b5, b6, b7⟩ := KK.out _ hb
    obtain rfl := Option.some.inj ea
    by_cases hlt : j < x.im.length
    · have hlt' : (j : Int) < x.im.length := by omega
      obtain ⟨bd, hbd, hbb, h0, h1, h2, h3⟩ := imp_at HM.out hb j hlt
      rw [hbd] at a5
      clear hb hbd
      by_cases he : x.im[j].mod = y.name
      · have he' := str_eq he
        have hrr := Lib.hid (show R = true by rw [HR.out]; exact List.any_eq_true.2 ⟨_, List.getElem_mem hlt, by simp [asksQ, he]⟩)
        clear he
        go_wp2_with fail
        go_quiet (fail)
        go_wp2_with fail
        go_ret
        exact ⟨ret_bool hrr.out.symm, below_drewN HB.out _⟩
      · have he' := str_ne he
        have HEE := Lib.hid (show asksQ y.name x.im[j] = false by simp [asksQ, he])
        clear he
        go_wp2_with fail
        go_quiet (fail)
        go_wp2_with fail
        go_roundw
        case rel => exact ⟨j + 1, by omega, by go_num, fun k hk hkj => by rcases Nat.lt_succ_iff_lt_or_eq.1 hkj with h | rfl; exact HN.out k hk h; exact HEE.out, below_drewN HB.out _⟩
        case measure => (simp [intOf]; try omega)
    · have hrr := Lib.hid (show R = false by
        rw [HR.out, List.any_eq_false]
        intro z hz
        obtain ⟨q, hq, e⟩ := List.getElem_of_mem hz
        rw [← e, HN.out q hq (by omega)]; simp)
      clear hb
      go_wp2_with fail
      go_ret
      exact ⟨ret_bool hrr.out.symm, HB.out⟩

theorem place_ge {l : List Plc} (hn : (txs l).Nodup) {i : Nat} (hi : i < l.length) : idxOf (named l[i].m.name) l = i := by
  refine idxOf_some hi (fun k hk hki => ?_) (by simp [named])
  unfold named
  refine decide_eq_false (fun e => ?_)
  have := nodup_one hn k i hk hi (by rw [nmN_at hk, nmN_at hi, e])
  omega
theorem twice_at {l : List Plc} {i : Nat} (hi : i < l.length) (h : idxOf (named l[i].m.name) l < i) : isTwice l = true := by
  rw [twice_nodup]
  intro hn
  rw [place_ge hn hi] at h; omega
theorem twice_no {l : List Plc} (h : ∀ i (hi : i < l.length), ¬ idxOf (named l[i].m.name) l < i) : isTwice l = false := by
  cases e : isTwice l
  · rfl
  · rw [twice_nodup] at e
    refine absurd ?_ e
    refine List.pairwise_iff_getElem.2 (fun i j hi hj hij en => ?_)
    rw [txs_length] at hi hj
    have e1 := txs_at hi
    have e2 := txs_at hj
    rw [e1, e2] at en
    have en := tx_inj en
    refine h j hj ?_
    rcases idxOf_cases (named l[j].m.name) l with ⟨_, hno⟩ | ⟨q, hq, eq, _, hmin⟩
    · have := hno l[j] (List.getElem_mem _); simp [named] at this
    · rw [eq]
      have : ¬ i < q := fun hlt => by have := hmin i hi hlt; simp [named, en] at this
      omega
set_option maxHeartbeats 2000000 in
set_option maxRecDepth 100000 in
theorem IsTwice_any (A : Option Addr) (c : Nat) (l : List Plc) (w : World) (h : Row Plc.cells 8 w A l) (hl : l.length ≤ big) :
    Calls Try.prog 31 #[.slice A l.length c] w fun e w' => e = .returned (.bool (isTwice l)) ∧ Below w.heap.size w w' := by
  have HL := Lib.hid hl
  unfold big at hl
  have HP := Lib.hid h
  clear h
  obtain ⟨R, hR⟩ : ∃ R, R = isTwice l := ⟨_, rfl⟩
  rw [← hR]
  have HR := Lib.hid hR
  clear hR
  go_enter Try.func31, Try.ntmps31
  go_wp2_with fail
  go_loopw [3] (fun i wr => ∃ j : Nat, j ≤ l.length ∧ i = .int .i64 j ∧ (∀ k (hk : k < l.length), k < j → (k : Int) ≤ idxOf (named l[k].m.name) l) ∧ Below w.heap.size w wr) (fun i _ => l.length - (intOf i).toNat)
  case atStart => exact ⟨0, by omega, rfl, by omega, Below.refl _ _⟩
  case round =>
    obtain ⟨j, hj, rfl, hN, hb⟩ := hrel
    have HN := Lib.hid hN
    have HB := Lib.hid hb
    clear hN
    by_cases hlt : j < l.length
    · have hlt' : (j : Int) < l.length := by omega
      have hpl := PlaceOf_any A c l l[j].m.name wr (HP.out.below hb) HL.out
      obtain ⟨ad, rfl, hab, h0, h1, h2, h3, h4, h5, h6, h7⟩ := plc_at HP.out hb j hlt
      obtain ⟨pi, hpi⟩ : ∃ pi, pi = idxOf (named l[j].m.name) l := ⟨_, rfl⟩
      rw [← hpi] at hpl
      have c1 := Lib.hid hpl
      clear hb hpl
      by_cases he : pi < j
      · have hrr := Lib.hid (show R = true by rw [HR.out]; exact twice_at hlt (by omega))
        clear hpi
        go_wp2_with (go_at_call 13; refine (c1.out).mono ?_; rintro e w3 ⟨rfl, hb3⟩)
        go_ret
        exact ⟨ret_bool hrr.out.symm, HB.out.trans (hb3.mono HB.out.size)⟩
      · have HEE := Lib.hid (show (j : Int) ≤ idxOf (named l[j].m.name) l by omega)
        have he' : decide (pi < j) = false := by simp; omega
        clear hpi he
        go_wp2_with (go_at_call 13; refine (c1.out).mono ?_; rintro e w3 ⟨rfl, hb3⟩)
        go_roundw
        case rel => exact ⟨j + 1, by omega, by go_num, fun k hk hkj => by rcases Nat.lt_succ_iff_lt_or_eq.1 hkj with h | rfl; exact HN.out k hk h; exact HEE.out, HB.out.trans (hb3.mono HB.out.size)⟩
        case measure => (simp [intOf]; try omega)
    · have hrr := Lib.hid (show R = false by rw [HR.out]; exact twice_no (fun i hi => by have := HN.out i hi (by omega); omega))
      clear hb
      go_wp2_with fail
      go_ret
      exact ⟨ret_bool hrr.out.symm, HB.out⟩

theorem refQ_any : refQ false false = anyQ := by funext x; simp [refQ, anyQ]
set_option maxHeartbeats 1000000 in
set_option maxRecDepth 100000 in
theorem checkGraph_any (A : Option Addr) (c : Nat) (l : List Plc) (w : World) (h : PlsOk w A l) :
    Calls Try.prog 12 #[.slice A l.length c] w fun e w' => e = .returned (.int .i64 (grErr l)) ∧ Below w.heap.size w w' := by
  have c1 := Lib.hid (CheckModules_any A c l false false w h)
  rw [refQ_any] at c1
  have c2 := Lib.hid (fun W (hb : Below w.heap.size w W) => IsTwice_any A c l W (h.row.below hb) h.len)
  obtain ⟨E, hE⟩ : ∃ E, E = grErr l := ⟨_, rfl⟩
  rw [← hE]
  unfold grErr at hE
  clear h
  generalize modsAll anyQ l = me at *
  generalize isTwice l = tw at *
  by_cases t1 : me = 0
  · obtain rfl := t1
    rw [if_neg (by omega)] at hE
    cases tw
    · rw [if_neg (by simp)] at hE
      go_enter Try.func12, Try.ntmps12
      go_wp2_with (first | (go_at_call 30; (with_reducible refine (c1.out).mono ?_); rintro e w1 ⟨rfl, hb1⟩) | (go_at_call 31; (with_reducible refine (c2.out _ hb1).mono ?_); rintro e w2 ⟨rfl, hb2⟩))
      go_ret
      exact ⟨ret_int hE.symm, hb1.trans (hb2.mono hb1.size)⟩
    · rw [if_pos rfl] at hE
      go_enter Try.func12, Try.ntmps12
      go_wp2_with (first | (go_at_call 30; (with_reducible refine (c1.out).mono ?_); rintro e w1 ⟨rfl, hb1⟩) | (go_at_call 31; (with_reducible refine (c2.out _ hb1).mono ?_); rintro e w2 ⟨rfl, hb2⟩))
      go_ret
      exact ⟨ret_int hE.symm, hb1.trans (hb2.mono hb1.size)⟩
  · rw [if_pos t1] at hE
    have t1' : (me == 0) = false := by simp [t1]
    clear t1
    go_enter Try.func12, Try.ntmps12
    go_wp2_with (first | (go_at_call 30; (with_reducible refine (c1.out).mono ?_); rintro e w1 ⟨rfl, hb1⟩))
    go_ret
    exact ⟨ret_int hE.symm, hb1⟩

end Go.Proofs.Ytgkpbndeljnjcaa
