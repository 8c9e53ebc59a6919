import Derived.Test.YtgkpbndeljnjcaaGrWalkW
/- Who is come to from one (chapter E): graph.reach, of, Needs, Users. -/
namespace Go.Proofs.Ytgkpbndeljnjcaa
open Go.RowKit Go.Maps Go.WideMaps Go.Sort
open Gs (Tx)

/-- of those that are met, of the first so many -/
def metT (T : List Tx) (V : List Tx) (j : Nat) : List Tx := (T.take j).filter (fun x => decide (x ∈ V))
theorem metT_in {T V : List Tx} {j : Nat} (h : j < T.length) (hm : T[j] ∈ V) : metT T V (j + 1) = metT T V j ++ [T[j]] := by
  unfold metT; rw [List.take_succ_eq_append_getElem h, List.filter_append]; simp [hm]
theorem metT_out {T V : List Tx} {j : Nat} (h : j < T.length) (hm : T[j] ∉ V) : metT T V (j + 1) = metT T V j := by
  unfold metT; rw [List.take_succ_eq_append_getElem h, List.filter_append]; simp [hm]
theorem metT_end {T V : List Tx} {j : Nat} (h : ¬ j < T.length) : metT T V j = T.filter (fun x => decide (x ∈ V)) := by
  unfold metT; rw [List.take_of_length_le (by omega)]
theorem metT_le (T V : List Tx) (j : Nat) : (metT T V j).length ≤ T.length := by
  unfold metT
  have h1 := List.length_filter_le (fun x => decide (x ∈ V)) (T.take j)
  have h2 : (T.take j).length ≤ T.length := by rw [List.length_take]; omega
  omega

theorem name_small {l : List Plc} (h : ∀ x ∈ l, modErr x.m = 0) : ∀ t ∈ Gs.msort (txs l), (bs t).size ≤ huge := fun t ht => by
  rw [Gs.msort_mem] at ht
  obtain ⟨x, hx, rfl⟩ := List.mem_map.1 ht
  rw [bs_tx]
  have := isName_size (modErr_facts (h x hx)).1
  unfold huge; omega

theorem wk_begin {w w2 : World} {T : List Tx} {tA : Option Addr} {tC g : Nat} {lb : Array Value} (t : TypeId) (hb : Below w.heap.size w w2) (hr : TxRow w2 tA T) (h0 : 0 < T.length) :
    Wk w T tA tC g lb (w2.heap.size + 1) w2.heap.size ((w2.alloc (.map #[] 0)).alloc (.cells #[.slice tA T.length tC, .map (some w2.heap.size), .func (.func g) #[] lb] t)) ∧
    Mt ((w2.alloc (.map #[] 0)).alloc (.cells #[.slice tA T.length tC, .map (some w2.heap.size), .func (.func g) #[] lb] t)) w2.heap.size [] := by
  obtain ⟨w0, hw0⟩ : ∃ w0, w0 = w2.alloc (.map #[] 0) := ⟨_, rfl⟩
  have hz : w0.heap.size = w2.heap.size + 1 := by rw [hw0]; simp
  have hb0 : Below w2.heap.size w2 w0 := hw0 ▸ (Below.refl _ _).alloc (Nat.le_refl _) _
  have hm0 : Mt w0 w2.heap.size [] := by rw [hw0]; exact Counts.made _
  rw [← hw0, ← hz]
  obtain ⟨w3, hw3⟩ : ∃ w3, w3 = w0.alloc (.cells #[.slice tA T.length tC, .map (some w2.heap.size), .func (.func g) #[] lb] t) := ⟨_, rfl⟩
  obtain ⟨f0, f1, f2, hz3, hb3⟩ := box3 hw3
  rw [← hw3]
  refine ⟨⟨hb.trans ((hb0.trans (hb3.mono (by omega))).mono hb.size), f0, f1, f2, (hr.below hb0).below hb3, by omega, hb.size, fun ad e => ?_, by omega⟩, ?_⟩
  · subst e
    obtain ⟨ad', e', hlt, _⟩ := hr.2 (by simpa using h0)
    cases e'; omega
  · exact Mt.kept hm0 hb3 (by omega)

set_option maxHeartbeats 4000000 in
set_option maxRecDepth 100000 in
theorem reach_any (A : Option Addr) (c : Nat) (l : List Plc) (nm : ByteArray) (g : Nat) (lb : Array Value) (r : Tx → Tx → Bool) (w : World) (eg : ∀ args w, (callFunc g args).run Try.prog w = .ok (.enter g args) w) (h : PlsOk w A l) (hg : grErr l = 0) (hn : tx nm ∈ txs l)
    (hq : ∀ x ∈ txs l, ∀ y ∈ txs l, ∀ W, Below w.heap.size w W → Calls Try.prog g (#[.string (bs x), .string (bs y)] ++ lb) W fun e w' => e = .returned (.bool (r x y)) ∧ Below W.heap.size W w') :
    Calls Try.prog 44 #[.slice A l.length c, .string nm, .func (.func g) #[] lb] w fun e w' => (∃ v, e = .returned v ∧ TR w' w.heap.size v (reachT l r (tx nm))) ∧ Below w.heap.size w w' := by
  obtain ⟨h8, hall, _⟩ := grErr_ok hg
  obtain ⟨T, hT⟩ : ∃ T, T = Gs.msort (txs l) := ⟨_, rfl⟩
  have hTl : T.length = l.length := by rw [hT, msort_length, txs_length]
  obtain ⟨V, hV⟩ : ∃ V, V = Gr.visit T r (l.length + 1) [] (tx nm) := ⟨_, rfl⟩
  have HR := Lib.hid (show reachT l r (tx nm) = T.filter (fun x => decide (x ∈ V)) by unfold reachT; rw [hV, hT])
  have c1 := Lib.hid (names_any A c l w h.row h8)
  have hmem : ∀ x, x ∈ T → x ∈ txs l := fun x hx => by rw [hT, Gs.msort_mem] at hx; exact hx
  have cW := Lib.hid (fun tA tC p b W hk hm => walk_any w T tA tC g lb p b r eg (by omega) (hT ▸ name_small hall) (fun x hx y hy W hb => hq x (hmem x hx) y (hmem y hy) W hb)
    (l.length + 1) (tx nm) [] W (by have : Gr.unmet T [] ≤ T.length := List.length_filter_le _ _; omega) (by rw [hT, Gs.msort_mem]; exact hn) List.nodup_nil (fun x hx => by cases hx) hk hm)
  rw [← hT] at c1
  rw [← hV] at cW
  simp only [bs_tx] at cW
  have HS := Lib.hid (hT ▸ name_small hall)
  have HT8 := Lib.hid (show T.length ≤ 8 by omega)
  have HT0 := Lib.hid (show 0 < T.length from List.length_pos_of_mem (show tx nm ∈ T by rw [hT, Gs.msort_mem]; exact hn))
  have hmm := @run_makeMap Try.prog
  clear h hg hn hq hall hT hmem hV hTl h8
  go_enter Try.func44, Try.ntmps44
  go_wp2_with (first
    | (go_at_call 50; refine (c1.out).mono ?_; rintro e w2 ⟨⟨v, rfl, ht2⟩, hb2⟩
       obtain ⟨tA, tC, rfl, hr2⟩ := ht2.form
       have HB2 := Lib.hid hb2
       have HK3 := Lib.hid (wk_begin (tC := tC) (g := g) (lb := lb) 113 hb2 hr2 HT0.out)
       clear ht2 hr2 hb2)
    | (go_at_call 71; refine (cW.out _ _ _ _ _ HK3.out.1 HK3.out.2).mono ?_; rintro e w4 ⟨rfl, hm4, hg4⟩
       have HM4 := Lib.hid hm4
       have HK4 := Lib.hid (HK3.out.1.keep hg4)
       have a0 := HK4.out.f0
       clear hm4 hg4))
  clear a0
  go_loopw [8, 25] (fun v i wr => ∃ j : Nat, j ≤ T.length ∧ i = .int .i64 j ∧ TR wr w4.heap.size v (metT T V j) ∧ Below w4.heap.size w4 wr) (fun _ i _ => T.length - (intOf i).toNat)
  case atStart => exact ⟨0, by omega, rfl, TR.nil _ _, Below.refl _ _⟩
  case round =>
    obtain ⟨j, hj, rfl, ht, hb⟩ := hrel
    have HT := Lib.hid ht
    have HB := Lib.hid hb
    have hwz := hb.size
    have hplt := HK4.out.plt
    have hblt := HM4.out.lt
    have hT8 := HT8.out
    clear ht
    by_cases hlt : j < T.length
    · have hlt' : (j : Int) < T.length := by omega
      obtain ⟨ad, hA, hab, h0⟩ := tx_at HK4.out.row hb j hlt
      subst hA
      have f1 := (hb.cell (p := ⟨w2.heap.size + 1, 1, none⟩) hplt).trans HK4.out.f1
      have HMR := Lib.hid (HM4.out.kept hb hblt)
      have hsh := Lib.hid (HS.out T[j] (List.getElem_mem _))
      have HML := Lib.hid (show (metT T V j).length ≤ 8 by have := metT_le T V j; have := HT8.out; omega)
      have HI := Lib.hid (metT_in (V := V) hlt)
      have HO := Lib.hid (metT_out (V := V) hlt)
      obtain ⟨t, ht⟩ : ∃ t, t = T[j]'hlt := ⟨_, rfl⟩
      rw [← ht] at h0 hsh HI HO
      clear ht hb
      obtain ⟨cn, hcn⟩ : ∃ cn, cn = cnt (V.map bs) (bs t) := ⟨_, rfl⟩
      have HC := Lib.hid hcn
      by_cases hm : t ∈ V
      · have t0 : (0 : Int) < cn := by rw [hcn]; exact met_cnt.2 hm
        have e1 := Lib.hid (HI.out hm)
        have HZX := Lib.hid hwz
        clear hcn hm
        go_wp2_with (first
          | (at_lookup; refine counts_lookup _ rfl _ _ rfl w2.heap.size V.length (V.map bs) HMR.out (bs t) hsh.out rfl rfl cn HC.out ?_)
          | (at_builtin; refine append_tr wr rfl _ _ rfl w4.heap.size _ (metT T V j) (bs t) rfl rfl (by exact HT.out) (by have := HML.out; omega) HZX.out ?_; intro v' w6 ht6 hb6))
        go_roundw
        case rel => exact ⟨j + 1, by omega, by go_num, by rw [e1.out]; rwa [tx_bs] at ht6, HB.out.trans hb6⟩
        case measure => (simp [intOf]; try omega)
      · have t0 : decide ((0 : Int) < cn) = false := by rw [hcn, met_zero hm]; rfl
        have e1 := Lib.hid (HO.out hm)
        clear hcn hm
        go_wp2_with (at_lookup; refine counts_lookup _ rfl _ _ rfl w2.heap.size V.length (V.map bs) HMR.out (bs t) hsh.out rfl rfl cn HC.out ?_)
        go_roundw
        case rel => exact ⟨j + 1, by omega, by go_num, by rw [e1.out]; exact HT.out, HB.out⟩
        case measure => (simp [intOf]; try omega)
    · have e1 := Lib.hid (metT_end (V := V) hlt)
      have hz4 := Lib.hid (show w.heap.size ≤ w4.heap.size from HK4.out.below.size)
      clear hb
      go_wp2_with fail
      go_ret
      refine ⟨⟨_, rfl, ?_⟩, HK4.out.below.trans (HB.out.mono hz4.out)⟩
      rw [HR.out, ← e1.out]
      exact HT.out.more hz4.out


set_option maxHeartbeats 2000000 in
set_option maxRecDepth 100000 in
theorem of_any (A : Option Addr) (c : Nat) (l : List Plc) (nm : ByteArray) (g : Nat) (lb : Array Value) (r : Tx → Tx → Bool) (w : World) (eg : ∀ args w, (callFunc g args).run Try.prog w = .ok (.enter g args) w) (h : PlsOk w A l)
    (hq : grErr l = 0 → ∀ x ∈ txs l, ∀ y ∈ txs l, ∀ W, Below w.heap.size w W → Calls Try.prog g (#[.string (bs x), .string (bs y)] ++ lb) W fun e w' => e = .returned (.bool (r x y)) ∧ Below W.heap.size W w') :
    Calls Try.prog 24 #[.slice A l.length c, .string nm, .func (.func g) #[] lb] w fun e w' => (∃ v, e = .returned (.tuple #[v, .int .i64 (ofErr l nm)]) ∧ TR w' w.heap.size v (if ofErr l nm ≠ 0 then [] else reachT l r (tx nm))) ∧ Below w.heap.size w w' := by
  have c1 := Lib.hid (ready_any A c l w h)
  have c2 := Lib.hid (fun W (hb : Below w.heap.size w W) => Place_any A c l nm W (h.row.below hb) h.len)
  have c3 := Lib.hid (fun (e : ofErr l nm = 0) W (hb : Below w.heap.size w W) => reach_any A c l nm g lb r W eg (h.below hb) (ofErr_ok e).1 (by
    obtain ⟨_, p, hp, _, e3⟩ := ofErr_ok e
    rw [e3, nmN_at hp]
    exact List.mem_map.2 ⟨_, List.getElem_mem hp, rfl⟩) (fun x hx y hy W' hb' => hq (ofErr_ok e).1 x hx y hy W' (hb.trans (hb'.mono hb.size))))
  obtain ⟨E, hE⟩ : ∃ E, E = ofErr l nm := ⟨_, rfl⟩
  rw [← hE] at c3 ⊢
  unfold ofErr at hE
  clear h hq
  generalize reachT l r (tx nm) = R at *
  generalize grErr l = ge at *
  obtain ⟨pi, hpi⟩ : ∃ pi, pi = idxOf (named nm) l := ⟨_, rfl⟩
  rw [← hpi] at hE c2
  clear hpi
  by_cases t1 : ge = 0
  · obtain rfl := t1
    rw [if_neg (by omega)] at hE
    by_cases t2 : pi < 0
    · rw [if_pos t2] at hE
      subst hE
      clear c3
      go_enter Try.func24, Try.ntmps24
      go_wp2_with (first | (go_at_call 28; (with_reducible refine (c1.out).mono ?_); rintro e w1 ⟨rfl, hb1⟩) | (go_at_call 43; (with_reducible refine (c2.out _ hb1).mono ?_); rintro e w2 ⟨rfl, hb2⟩))
      go_ret2
      exact ⟨⟨_, rfl, TR.nil _ _⟩, hb1.trans (hb2.mono hb1.size)⟩
    · rw [if_neg t2] at hE
      have t2' : decide (pi < 0) = false := by simp; omega
      subst hE
      have c4 := Lib.hid (c3.out rfl)
      clear t2 c3
      go_enter Try.func24, Try.ntmps24
      go_wp2_with (first
        | (go_at_call 28; refine (c1.out).mono ?_; rintro e w1 ⟨rfl, hb1⟩)
        | (go_at_call 43; refine (c2.out _ hb1).mono ?_; rintro e w2 ⟨rfl, hb2⟩; have HB2 := Lib.hid (hb1.trans (hb2.mono hb1.size)))
        | (go_at_call 44; refine (c4.out _ HB2.out).mono ?_; rintro e w3 ⟨⟨v, rfl, ht3⟩, hb3⟩; have HT := Lib.hid ht3; have HB := Lib.hid hb3; clear ht3 hb3))
      go_ret2
      exact ⟨⟨_, rfl, HT.out.more HB2.out.size⟩, HB2.out.trans (HB.out.mono HB2.out.size)⟩
  · rw [if_pos t1] at hE
    have t1' : (ge != 0) = true := by simp [t1]
    have t1'' : (ge == 0) = false := by simp [t1]
    have H1 := Lib.hid t1
    subst hE
    clear t1 c2 c3
    go_enter Try.func24, Try.ntmps24
    go_wp2_with (first | (go_at_call 28; (with_reducible refine (c1.out).mono ?_); rintro e w1 ⟨rfl, hb1⟩))
    go_ret2
    exact ⟨⟨_, rfl, by first | exact TR.nil _ _ | (rw [if_pos H1.out]; exact TR.nil _ _)⟩, hb1⟩

set_option maxHeartbeats 1000000 in
set_option maxRecDepth 100000 in
theorem needs1_any (A : Option Addr) (c : Nat) (l : List Plc) (B : Nat) (x y : Tx) (w : World) (h : PlsOk w A l) (hc : w.cell? ⟨B, 0, none⟩ = some (.slice A l.length c)) (hx : x ∈ txs l) :
    Calls Try.prog 25 (#[.string (bs x), .string (bs y)] ++ #[.pointer (some ⟨B, 0, none⟩)]) w fun e w' => e = .returned (.bool (dirT l x y)) ∧ Below w.heap.size w w' := by
  have c1 := Lib.hid (direct_any A c l (bs x) (bs y) w h (by rw [tx_bs]; exact hx))
  simp only [tx_bs] at c1
  generalize dirT l x y = d at *
  clear h hx
  go_enter Try.func25, Try.ntmps25
  go_wp2_with (first | (go_at_call 26; (with_reducible refine (c1.out).mono ?_); rintro e w1 ⟨rfl, hb1⟩))
  go_ret
  exact ⟨rfl, hb1⟩
set_option maxHeartbeats 1000000 in
set_option maxRecDepth 100000 in
theorem users1_any (A : Option Addr) (c : Nat) (l : List Plc) (B : Nat) (x y : Tx) (w : World) (h : PlsOk w A l) (hc : w.cell? ⟨B, 0, none⟩ = some (.slice A l.length c)) (hy : y ∈ txs l) :
    Calls Try.prog 27 (#[.string (bs x), .string (bs y)] ++ #[.pointer (some ⟨B, 0, none⟩)]) w fun e w' => e = .returned (.bool (dirT l y x)) ∧ Below w.heap.size w w' := by
  have c1 := Lib.hid (direct_any A c l (bs y) (bs x) w h (by rw [tx_bs]; exact hy))
  simp only [tx_bs] at c1
  generalize dirT l y x = d at *
  clear h hy
  go_enter Try.func27, Try.ntmps27
  go_wp2_with (first | (go_at_call 26; (with_reducible refine (c1.out).mono ?_); rintro e w1 ⟨rfl, hb1⟩))
  go_ret
  exact ⟨rfl, hb1⟩

def TxRes (w' : World) (base : Nat) (e : Ending) (ss : List Tx) (er : Int) : Prop := ∃ v, e = .returned (.tuple #[v, .int .i64 er]) ∧ TR w' base v ss
set_option maxHeartbeats 1000000 in
set_option maxRecDepth 100000 in
theorem Needs_any (A : Option Addr) (c : Nat) (l : List Plc) (nm : ByteArray) (w : World) (h : PlsOk w A l) :
    Calls Try.prog 9 #[.slice A l.length c, .string nm] w fun e w' => TxRes w' w.heap.size e (needsT l nm) (ofErr l nm) ∧ Below w.heap.size w w' := by
  obtain ⟨w0, hw0⟩ : ∃ w0, w0 = w.alloc (.cells #[.slice A l.length c] 22) := ⟨_, rfl⟩
  obtain ⟨hc0, hz0, hb0⟩ := box1 hw0
  have c1 := Lib.hid (of_any A c l nm 25 #[.pointer (some ⟨w.heap.size, 0, none⟩)] (dirT l) w0 (enters_of Try.func25 (by kernel_rfl) rfl) (h.below hb0)
    (fun _ x hx y _ W hb => needs1_any A c l w.heap.size x y W ((h.below hb0).below hb) ((hb.cell (by simp; omega)).trans hc0) hx))
  have H0 := Lib.hid hb0
  have e1 := Lib.hid (show (if ofErr l nm ≠ 0 then [] else reachT l (dirT l) (tx nm)) = needsT l nm from rfl)
  have hw0' := hw0.symm
  rw [e1.out] at c1
  generalize needsT l nm = N at *
  generalize ofErr l nm = E at *
  clear hw0 hb0 h hz0
  go_enter Try.func9, Try.ntmps9
  go_wp2_with (go_at_call 24; refine (c1.out).mono ?_; rintro e w1 ⟨⟨v, rfl, ht1⟩, hb1⟩; have HT := Lib.hid ht1; have HB := Lib.hid hb1; clear ht1 hb1)
  go_ret2
  exact ⟨⟨_, rfl, HT.out.more H0.out.size⟩, H0.out.trans (HB.out.mono H0.out.size)⟩
set_option maxHeartbeats 1000000 in
set_option maxRecDepth 100000 in
theorem Users_any (A : Option Addr) (c : Nat) (l : List Plc) (nm : ByteArray) (w : World) (h : PlsOk w A l) :
    Calls Try.prog 10 #[.slice A l.length c, .string nm] w fun e w' => TxRes w' w.heap.size e (usersT l nm) (ofErr l nm) ∧ Below w.heap.size w w' := by
  obtain ⟨w0, hw0⟩ : ∃ w0, w0 = w.alloc (.cells #[.slice A l.length c] 22) := ⟨_, rfl⟩
  obtain ⟨hc0, hz0, hb0⟩ := box1 hw0
  have c1 := Lib.hid (of_any A c l nm 27 #[.pointer (some ⟨w.heap.size, 0, none⟩)] (fun a b => dirT l b a) w0 (enters_of Try.func27 (by kernel_rfl) rfl) (h.below hb0)
    (fun _ x _ y hy W hb => users1_any A c l w.heap.size x y W ((h.below hb0).below hb) ((hb.cell (by simp; omega)).trans hc0) hy))
  have H0 := Lib.hid hb0
  have e1 := Lib.hid (show (if ofErr l nm ≠ 0 then [] else reachT l (fun a b => dirT l b a) (tx nm)) = usersT l nm from rfl)
  have hw0' := hw0.symm
  rw [e1.out] at c1
  generalize usersT l nm = N at *
  generalize ofErr l nm = E at *
  clear hw0 hb0 h hz0
  go_enter Try.func10, Try.ntmps10
  go_wp2_with (go_at_call 24; refine (c1.out).mono ?_; rintro e w1 ⟨⟨v, rfl, ht1⟩, hb1⟩; have HT := Lib.hid ht1; have HB := Lib.hid hb1; clear ht1 hb1)
  go_ret2
  exact ⟨⟨_, rfl, HT.out.more H0.out.size⟩, H0.out.trans (HB.out.mono H0.out.size)⟩

end Go.Proofs.Ytgkpbndeljnjcaa
