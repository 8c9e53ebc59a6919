import Derived.Test.YtjnfemcfohflnaaExp2W
/- Imports (chapter B): module.version, module.Import, module.imports, and the document's CheckImport. -/
namespace Go.Proofs.Ytjnfemcfohflnaa
open Go.RowKit Go.Maps Go.WideMaps

def verOk (a b : Int) : Bool := decide (0 ≤ a) && decide (a ≤ 255) && (decide (0 ≤ b) && decide (b ≤ 255))
set_option maxHeartbeats 400000 in
theorem version_any (a b : Int) (w : World) :
    Calls Try.prog 58 #[.int .i64 a, .int .i64 b] w fun e w' => e = .returned (.bool (verOk a b)) ∧ w = w' := by
  by_cases h : 0 ≤ a ∧ a ≤ 255
  · have c1 := Lib.hid (fun W => within_t a 0 255 W h.1 h.2)
    have c2 := Lib.hid (fun W => within_any b 0 255 W)
    have e1 : verOk a b = (decide (0 ≤ b) && decide (b ≤ 255)) := by unfold verOk; simp [h.1, h.2]
    rw [e1]; clear e1 h
    go_enter Try.func58, Try.ntmps58
    go_wp2_with (first | (go_at_call 44; (with_reducible refine (c1.out _).mono ?_); rintro e w' ⟨rfl, rfl⟩) | (go_at_call 44; (with_reducible refine (c2.out _).mono ?_); rintro e w' ⟨rfl, rfl⟩))
    all_goals (go_ret; exact ⟨rfl, rfl⟩)
  · have c1 := Lib.hid (fun W => within_f a 0 255 W (by omega))
    have e1 : verOk a b = false := by unfold verOk; simp; omega
    rw [e1]; clear e1 h
    go_enter Try.func58, Try.ntmps58
    go_wp2_with (first | (go_at_call 44; (with_reducible refine (c1.out _).mono ?_); rintro e w' ⟨rfl, rfl⟩))
    all_goals (go_ret; exact ⟨rfl, rfl⟩)

theorem impErr_eq (md nm : ByteArray) (mj mn : Int) : impErr ⟨md, nm, mj, mn⟩ = if isName md = true then (if isName nm = true then (if verOk mj mn = true then 0 else 3) else 1) else 1 := by
  unfold impErr verOk
  cases isName md <;> cases isName nm <;> simp
  (repeat' split) <;> first | rfl | omega

set_option maxRecDepth 100000 in
set_option maxHeartbeats 1000000 in
theorem Import_any (md nm : ByteArray) (mj mn : Int) (w : World) (h1 : md.size ≤ big) (h2 : nm.size ≤ big) :
    Calls Try.prog 71 #[.agg #[.string md, .string nm, .int .i64 mj, .int .i64 mn]] w fun e w' => e = .returned (.int .i64 (impErr ⟨md, nm, mj, mn⟩)) ∧ Below w.heap.size w w' := by
  rw [impErr_eq]
  have c1 := Lib.hid (fun W => Name_any md W h1)
  have c2 := Lib.hid (fun W => Name_any nm W h2)
  have c3 := Lib.hid (fun W => version_any mj mn W)
  have HB := Lib.hid ((Below.refl w.heap.size w).alloc (Nat.le_refl _) (.cells #[.string md, .string nm, .int .i64 mj, .int .i64 mn] 83))
  clear h1 h2
  generalize isName md = a at *
  generalize isName nm = b at *
  generalize verOk mj mn = c at *
  cases a
  · go_enter Try.func71, Try.ntmps71
    go_wp2_with (first | (go_at_call 43; (with_reducible refine (c1.out _).mono ?_); rintro e w1 ⟨rfl, hb1⟩; obtain ⟨hc1, hf1⟩ := bcell hb1; have hz1 : w.heap.size < w1.heap.size := by have := hb1.size; (try simp at this); omega))
    go_ret
    exact ⟨rfl, HB.out.trans (hb1.mono (by simp))⟩
  cases b
  · go_enter Try.func71, Try.ntmps71
    go_wp2_with (first | (go_at_call 43; (with_reducible refine (c1.out _).mono ?_); rintro e w1 ⟨rfl, hb1⟩; obtain ⟨hc1, hf1⟩ := bcell hb1; have hz1 : w.heap.size < w1.heap.size := by have := hb1.size; (try simp at this); omega) | (go_at_call 43; (with_reducible refine (c2.out _).mono ?_); rintro e w2 ⟨rfl, hb2⟩; obtain ⟨hc2, hf2⟩ := bcell hb2; have hz2 : w.heap.size < w2.heap.size := by have := hb2.size; (try simp at this); omega))
    go_ret
    exact ⟨rfl, (HB.out.trans (hb1.mono (by simp))).trans (hb2.mono (by omega))⟩
  cases c
  all_goals
    go_enter Try.func71, Try.ntmps71
    go_wp2_with (first | (go_at_call 43; (with_reducible refine (c1.out _).mono ?_); rintro e w1 ⟨rfl, hb1⟩; obtain ⟨hc1, hf1⟩ := bcell hb1; have hz1 : w.heap.size < w1.heap.size := by have := hb1.size; (try simp at this); omega) | (go_at_call 43; (with_reducible refine (c2.out _).mono ?_); rintro e w2 ⟨rfl, hb2⟩; obtain ⟨hc2, hf2⟩ := bcell hb2; have hz2 : w.heap.size < w2.heap.size := by have := hb2.size; (try simp at this); omega) | (go_at_call 58; (with_reducible refine (c3.out _).mono ?_); rintro e w' ⟨rfl, rfl⟩))
    go_ret
    exact ⟨rfl, (HB.out.trans (hb1.mono (by simp))).trans (hb2.mono (by omega))⟩

theorem split_at_space {a c b d : List UInt8} (ha : (32 : UInt8) ∉ a) (hc : (32 : UInt8) ∉ c) (h : a ++ [32] ++ b = c ++ [32] ++ d) : a = c ∧ b = d := by
  induction a generalizing c with
  | nil => cases c with
    | nil => simp at h; exact ⟨rfl, h⟩
    | cons y c => simp at h hc; exact absurd h.1 hc.1
  | cons x a ih => cases c with
    | nil => simp at h ha; exact absurd h.1.symm ha.1
    | cons y c =>
      simp only [List.cons_append, List.cons.injEq] at h
      simp only [List.mem_cons, not_or] at ha hc
      obtain ⟨e1, e2⟩ := ih ha.2 hc.2 h.2
      exact ⟨by rw [h.1, e1], e2⟩
theorem no_space {s : ByteArray} (h : isName s = true) : (32 : UInt8) ∉ s.data.toList := by
  unfold isName at h
  simp only [Bool.and_eq_true] at h
  intro hm
  have := List.all_eq_true.1 h.2 _ hm
  simp [okByte] at this
def keyBytes (x : Imp) : ByteArray := x.mod ++ ⟨#[32]⟩ ++ x.name
theorem key_inj {x y : Imp} (hx : isName x.mod = true) (hy : isName y.mod = true) (h : keyBytes x = keyBytes y) : x.mod = y.mod ∧ x.name = y.name := by
  have h1 : (keyBytes x).data.toList = (keyBytes y).data.toList := by rw [h]
  unfold keyBytes at h1
  rw [ba_append, ba_append, ba_append, ba_append] at h1
  obtain ⟨e1, e2⟩ := split_at_space (no_space hx) (no_space hy) h1
  exact ⟨ba_eq e1, ba_eq e2⟩
theorem imp_named {x : Imp} (h : impErr x ≠ 1) : isName x.mod = true := by
  unfold impErr at h
  cases hn : isName x.mod
  · simp [hn] at h
  · rfl

set_option maxHeartbeats 2000000 in
set_option maxRecDepth 100000 in
theorem imports_any (A : Option Addr) (c : Nat) (l : List Imp) (w : World) (h : ImpsOk w A l) :
    Calls Try.prog 59 #[.slice A l.length c] w fun e w' => e = .returned (.int .i64 (impsErr [] l)) ∧ Below w.heap.size w w' := by
  obtain ⟨hr, hl, hs⟩ := h
  unfold big at hl
  have HR := Lib.hid hr
  have HS := Lib.hid hs
  clear hr hs
  have hmm := @run_makeMap Try.prog
  go_enter Try.func59, Try.ntmps59
  go_wp2_with fail
  go_loopw [10] (fun i wr => ∃ j : Nat, j ≤ l.length ∧ i = .int .i64 j ∧ impsFrom l j = impsErr [] l ∧ (∀ k (hk : k < l.length), k < j → isName l[k].mod = true) ∧ Counts wr w.heap.size j ((l.take j).map keyBytes) ∧ Below w.heap.size w wr) (fun i _ => l.length - (intOf i).toNat)
  case atStart => exact ⟨0, by omega, rfl, rfl, by omega, Counts.made _, (Below.refl _ _).alloc (Nat.le_refl _) _⟩
  case round =>
    obtain ⟨j, hj, rfl, hE, hN, hco, hb⟩ := hrel
    have HE := Lib.hid hE
    have HB := Lib.hid hb
    have HC := Lib.hid hco
    have HNM := Lib.hid hN
    clear hE hco hN
    by_cases hlt : j < l.length
    · have hlt' : (j : Int) < l.length := by omega
      obtain ⟨ad, rfl, hab, h0, h1, h2, h3⟩ := imp_at HR.out hb j hlt
      obtain ⟨hsz1, hsz2⟩ := HS.out l[j] (List.getElem_mem _)
      have hsm := Lib.hid (take_map_snoc l keyBytes j hlt)
      have hmt := Lib.hid (mem_take_map l keyBytes j (by omega) (keyBytes l[j]))
      obtain ⟨ks, hks⟩ : ∃ ks, ks = (l.take j).map keyBytes := ⟨_, rfl⟩
      rw [← hks] at hsm hmt HC
      have hkl := Lib.hid (show ks.length ≤ big by rw [hks]; simp; unfold big; omega)
      have hjl := Lib.hid (show j ≤ big by unfold big; omega)
      have hbk : w.heap.size < wr.heap.size := HC.out.lt
      have hz3 : ((l[j]'hlt).mod ++ ⟨#[32]⟩).size = (l[j]'hlt).mod.size + 1 := by rw [ByteArray.size_append]; rfl
      obtain ⟨ky, hky⟩ : ∃ ky, ky = (l[j]'hlt).mod ++ ⟨#[32]⟩ ++ (l[j]'hlt).name := ⟨_, rfl⟩
      have ha1 : ∀ W, (Op.stringOp .add (l[j]'hlt).mod ⟨#[32]⟩).run Try.prog W = .ok (.string ((l[j]'hlt).mod ++ ⟨#[32]⟩)) W := fun W => run_string_add_sum _ _ _ (by show _ + 1 ≤ _; unfold big at hsz1; omega)
      have ha2 : ∀ W, (Op.stringOp .add ((l[j]'hlt).mod ++ ⟨#[32]⟩) (l[j]'hlt).name).run Try.prog W = .ok (.string ky) W := fun W => by rw [hky]; exact run_string_add_sum _ _ _ (by unfold big at hsz1 hsz2; omega)
      have hsh := Lib.hid (show ky.size ≤ huge by rw [hky, ByteArray.size_append, hz3]; unfold huge; unfold big at hsz1 hsz2; omega)
      have hkk : ky = keyBytes l[j] := hky
      rw [← hkk] at hsm hmt
      obtain ⟨cn, hcn⟩ : ∃ cn, cn = cnt ks ky := ⟨_, rfl⟩
      have q2 : wrap64 (cn + 1) = cn + 1 := by rw [hcn]; exact cnt_wrap hkl.out (by unfold big; omega)
      have hcp := Lib.hid (cnt_pos (ks := ks) (s := ky))
      have hcs := Lib.hid (cnt_snoc ks ky ky)
      rw [← hcn] at hcp hcs
      rw [if_pos rfl] at hcs
      have HCN := Lib.hid hcn
      have HKK := Lib.hid hkk
      have hte : impErr l[j] ≠ 1 → (0 < cn ↔ ∃ k, ∃ hk : k < l.length, k < j ∧ (l[k].mod = l[j].mod ∧ l[k].name = l[j].name)) := fun hne => by
        rw [hcp.out, hmt.out]
        constructor
        · rintro ⟨k, hk, hkj, e⟩
          exact ⟨k, hk, hkj, key_inj (HNM.out k hk hkj) (imp_named hne) (e.trans hkk)⟩
        · rintro ⟨k, hk, hkj, e1, e2⟩
          exact ⟨k, hk, hkj, by rw [hkk]; unfold keyBytes; rw [e1, e2]⟩
      have HTE := Lib.hid hte
      have c1 := Lib.hid (fun W => Import_any (l[j]'hlt).mod (l[j]'hlt).name (l[j]'hlt).major (l[j]'hlt).minor W hsz1 hsz2)
      obtain ⟨er, her⟩ : ∃ er, er = impErr (l[j]'hlt) := ⟨_, rfl⟩
      have her' : er = impErr ⟨(l[j]'hlt).mod, (l[j]'hlt).name, (l[j]'hlt).major, (l[j]'hlt).minor⟩ := her
      rw [← her'] at c1
      have HER := Lib.hid her
      clear hb hks hcn hky hkk hte her her' hz3
      rcases impErr_cases (l[j]'hlt) with h5 | h5 | h5
      all_goals
        obtain rfl := HER.out.trans h5
        have H5 := Lib.hid h5
        clear h5 HER
      · by_cases hmm2 : 0 < cn
        · obtain ⟨k, hk, hkj, hkn⟩ := (HTE.out (by rw [H5.out]; omega)).1 hmm2
          have e1 := Lib.hid ((impsFrom_twice hlt (by rw [H5.out]; omega) hk hkj hkn).symm.trans HE.out)
          have t1 : (1 : Int) < cn + 1 := by omega
          clear hmm2 hkn
          go_wp2_with (first
        | (at_lookup; refine counts_lookup _ rfl _ _ rfl w.heap.size (j + 1) (ks ++ [ky]) (hco1.kept hb2 (by omega)) ky hsh.out rfl rfl (cn + 1) hcs.out.symm ?_)
        | (at_lookup; refine counts_lookup _ rfl _ _ rfl w.heap.size j ks (HC.out.alloc _) ky hsh.out rfl rfl cn HCN.out ?_)
        | (at_mapUpdate; refine counts_update _ rfl _ _ _ rfl w.heap.size j ks (HC.out.alloc _) ky hsh.out hkl.out hjl.out rfl rfl cn HCN.out rfl ?_; intro w1 hco1 hgrow1; obtain ⟨hf, hz1, hbb⟩ := made_kept hgrow1 hbk; have f0 := hf 0 _ rfl; have f1 := hf 1 _ rfl; have f2 := hf 2 _ rfl; have f3 := hf 3 _ rfl; clear hf)
        | (go_at_call 71; refine (c1.out _).mono ?_; rintro e w2 ⟨rfl, hb2⟩; obtain ⟨hc2, hf2⟩ := bcell hb2))
          go_ret
          exact ⟨ret_int e1.out, (HB.out.trans hbb).trans (hb2.mono (by omega))⟩
        · have hno := Lib.hid (fun k (hk : k < l.length) (hkj : k < j) e => hmm2 ((HTE.out (by rw [H5.out]; omega)).2 ⟨k, hk, hkj, e⟩))
          have e1 := Lib.hid ((impsFrom_next hlt H5.out hno.out).trans HE.out)
          have t1 : decide ((1 : Int) < cn + 1) = false := by simp; omega
          clear hmm2
          go_wp2_with (first
        | (at_lookup; refine counts_lookup _ rfl _ _ rfl w.heap.size (j + 1) (ks ++ [ky]) (hco1.kept hb2 (by omega)) ky hsh.out rfl rfl (cn + 1) hcs.out.symm ?_)
        | (at_lookup; refine counts_lookup _ rfl _ _ rfl w.heap.size j ks (HC.out.alloc _) ky hsh.out rfl rfl cn HCN.out ?_)
        | (at_mapUpdate; refine counts_update _ rfl _ _ _ rfl w.heap.size j ks (HC.out.alloc _) ky hsh.out hkl.out hjl.out rfl rfl cn HCN.out rfl ?_; intro w1 hco1 hgrow1; obtain ⟨hf, hz1, hbb⟩ := made_kept hgrow1 hbk; have f0 := hf 0 _ rfl; have f1 := hf 1 _ rfl; have f2 := hf 2 _ rfl; have f3 := hf 3 _ rfl; clear hf)
        | (go_at_call 71; refine (c1.out _).mono ?_; rintro e w2 ⟨rfl, hb2⟩; obtain ⟨hc2, hf2⟩ := bcell hb2))
          go_roundw
          case rel => exact ⟨j + 1, by omega, by go_num, e1.out, fun k hk hkj => by rcases Nat.lt_succ_iff_lt_or_eq.1 hkj with h | rfl; exact HNM.out k hk h; exact imp_named (by rw [H5.out]; omega), by rw [hsm.out]; exact hco1.kept hb2 (by omega), (HB.out.trans hbb).trans (hb2.mono (by omega))⟩
          case measure => (simp [intOf]; try omega)
      · have e1 := Lib.hid ((impsFrom_form hlt H5.out).symm.trans HE.out)
        go_wp2_with (first
        | (at_lookup; refine counts_lookup _ rfl _ _ rfl w.heap.size (j + 1) (ks ++ [ky]) (hco1.kept hb2 (by omega)) ky hsh.out rfl rfl (cn + 1) hcs.out.symm ?_)
        | (at_lookup; refine counts_lookup _ rfl _ _ rfl w.heap.size j ks (HC.out.alloc _) ky hsh.out rfl rfl cn HCN.out ?_)
        | (at_mapUpdate; refine counts_update _ rfl _ _ _ rfl w.heap.size j ks (HC.out.alloc _) ky hsh.out hkl.out hjl.out rfl rfl cn HCN.out rfl ?_; intro w1 hco1 hgrow1; obtain ⟨hf, hz1, hbb⟩ := made_kept hgrow1 hbk; have f0 := hf 0 _ rfl; have f1 := hf 1 _ rfl; have f2 := hf 2 _ rfl; have f3 := hf 3 _ rfl; clear hf)
        | (go_at_call 71; refine (c1.out _).mono ?_; rintro e w2 ⟨rfl, hb2⟩; obtain ⟨hc2, hf2⟩ := bcell hb2))
        go_ret
        exact ⟨ret_int e1.out, (HB.out.trans hbb).trans (hb2.mono (by omega))⟩
      · by_cases hmm2 : 0 < cn
        · obtain ⟨k, hk, hkj, hkn⟩ := (HTE.out (by rw [H5.out]; omega)).1 hmm2
          have e1 := Lib.hid ((impsFrom_twice hlt (by rw [H5.out]; omega) hk hkj hkn).symm.trans HE.out)
          have t1 : (1 : Int) < cn + 1 := by omega
          clear hmm2 hkn
          go_wp2_with (first
        | (at_lookup; refine counts_lookup _ rfl _ _ rfl w.heap.size (j + 1) (ks ++ [ky]) (hco1.kept hb2 (by omega)) ky hsh.out rfl rfl (cn + 1) hcs.out.symm ?_)
        | (at_lookup; refine counts_lookup _ rfl _ _ rfl w.heap.size j ks (HC.out.alloc _) ky hsh.out rfl rfl cn HCN.out ?_)
        | (at_mapUpdate; refine counts_update _ rfl _ _ _ rfl w.heap.size j ks (HC.out.alloc _) ky hsh.out hkl.out hjl.out rfl rfl cn HCN.out rfl ?_; intro w1 hco1 hgrow1; obtain ⟨hf, hz1, hbb⟩ := made_kept hgrow1 hbk; have f0 := hf 0 _ rfl; have f1 := hf 1 _ rfl; have f2 := hf 2 _ rfl; have f3 := hf 3 _ rfl; clear hf)
        | (go_at_call 71; refine (c1.out _).mono ?_; rintro e w2 ⟨rfl, hb2⟩; obtain ⟨hc2, hf2⟩ := bcell hb2))
          go_ret
          exact ⟨ret_int e1.out, (HB.out.trans hbb).trans (hb2.mono (by omega))⟩
        · have hno := Lib.hid (fun k (hk : k < l.length) (hkj : k < j) e => hmm2 ((HTE.out (by rw [H5.out]; omega)).2 ⟨k, hk, hkj, e⟩))
          have e1 := Lib.hid ((impsFrom_range hlt H5.out hno.out).symm.trans HE.out)
          have t1 : decide ((1 : Int) < cn + 1) = false := by simp; omega
          clear hmm2
          go_wp2_with (first
        | (at_lookup; refine counts_lookup _ rfl _ _ rfl w.heap.size (j + 1) (ks ++ [ky]) (hco1.kept hb2 (by omega)) ky hsh.out rfl rfl (cn + 1) hcs.out.symm ?_)
        | (at_lookup; refine counts_lookup _ rfl _ _ rfl w.heap.size j ks (HC.out.alloc _) ky hsh.out rfl rfl cn HCN.out ?_)
        | (at_mapUpdate; refine counts_update _ rfl _ _ _ rfl w.heap.size j ks (HC.out.alloc _) ky hsh.out hkl.out hjl.out rfl rfl cn HCN.out rfl ?_; intro w1 hco1 hgrow1; obtain ⟨hf, hz1, hbb⟩ := made_kept hgrow1 hbk; have f0 := hf 0 _ rfl; have f1 := hf 1 _ rfl; have f2 := hf 2 _ rfl; have f3 := hf 3 _ rfl; clear hf)
        | (go_at_call 71; refine (c1.out _).mono ?_; rintro e w2 ⟨rfl, hb2⟩; obtain ⟨hc2, hf2⟩ := bcell hb2))
          go_ret
          exact ⟨ret_int e1.out, (HB.out.trans hbb).trans (hb2.mono (by omega))⟩
    · have e1 := Lib.hid ((impsFrom_end hlt).symm.trans HE.out)
      go_wp2_with fail
      go_ret
      exact ⟨ret_int e1.out, HB.out⟩

end Go.Proofs.Ytjnfemcfohflnaa
