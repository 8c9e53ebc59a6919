import Derived.Test.YtdpacbdejfjkcaaRunsW
import Derived.Test.YtdpacbdejfjkcaaFindW
/- The first run that has so many (chapter F): region.Fit, region.First. -/
namespace Go.Proofs.Ytdpacbdejfjkcaa
open Go.RowKit

theorem run_at {w w' : World} {A : Option Addr} {l : List Run} (h : Row Run.cells 2 w A l) (hb : Below w.heap.size w w') (i : Nat) (hi : i < l.length) :
    ∃ ad, A = some ad ∧ ad.block < w.heap.size ∧ w'.cell? (ad.add (i * 2)) = some (iv l[i].first) ∧ w'.cell? ⟨(ad.add (i * 2)).block, (ad.add (i * 2)).off + 1, none⟩ = some (iv l[i].many) := by
  obtain ⟨ad, rfl, hab, hc⟩ := Row.at_ (enc := Run.cells) (k := 2) (fun _ => rfl) h i hi
  have e0 := hc 0 _ rfl
  rw [add_zero_] at e0
  have hk : ∀ j u, 0 < j → (Run.cells l[i])[j]? = some u → w'.cell? ⟨(ad.add (i * 2)).block, (ad.add (i * 2)).off + j, none⟩ = some u := fun j u hj hu => by
    rw [← add_pos_ _ _ hj]
    exact (hb.cell (by rw [block_of_add, block_of_add]; exact hab)).trans (hc j u hu)
  exact ⟨ad, rfl, hab, (hb.cell (by rw [block_of_add]; exact hab)).trans e0, hk 1 _ (by omega) rfl⟩

set_option maxHeartbeats 2000000 in
set_option maxRecDepth 100000 in
theorem IdxRun_any (A : Option Addr) (c : Nat) (l : List Run) (g : Nat) (lb : Array Value) (q : Run → Bool) (w : World) (eg : ∀ args w, (callFunc g args).run Try.prog w = .ok (.enter g args) w) (h : Row Run.cells 2 w A l) (hl : l.length ≤ big)
    (hq : ∀ x ∈ l, ∀ W, Below w.heap.size w W → Calls Try.prog g (#[x.v] ++ lb) W fun e w' => e = .returned (.bool (q x)) ∧ Below W.heap.size W w') :
    Calls Try.prog 81 #[.slice A l.length c, .func (.func g) #[] lb] w fun e w' => e = .returned (.int .i64 (idxOf q l)) ∧ Below w.heap.size w w' := by
  unfold big at hl
  have HP := Lib.hid h
  have HQ := Lib.hid hq
  clear h hq
  go_enter Try.func81, Try.ntmps81
  go_wp2_with fail
  go_loopw [8] (fun i wr => ∃ j : Nat, j ≤ l.length ∧ i = .int .i64 j ∧ (∀ k (hk : k < l.length), k < j → q l[k] = false) ∧ Below w.heap.size w wr) (fun i _ => l.length - (intOf i).toNat)
  case atStart => exact ⟨0, by omega, rfl, by omega, Below.refl _ _⟩
  case round =>
    obtain ⟨j, hj, rfl, hN, hb⟩ := hrel
    have HN := Lib.hid hN
    have HB := Lib.hid hb
    clear hN
    by_cases hlt : j < l.length
    · have hlt' : (j : Int) < l.length := by omega
      obtain ⟨ad, rfl, hab, h0, h1⟩ := run_at HP.out hb j hlt
      have hwz := hb.size
      have c2 := Lib.hid (show Calls Try.prog g (#[(l[j]'hlt).v] ++ lb) wr fun e w' => e = .returned (.bool (q (l[j]'hlt))) ∧ Below wr.heap.size wr w' from HQ.out (l[j]'hlt) (List.getElem_mem _) wr HB.out)
      obtain ⟨bq, hbq⟩ : ∃ bq, bq = q (l[j]'hlt) := ⟨_, rfl⟩
      rw [← hbq] at c2
      have HBQ := Lib.hid hbq
      clear hbq hb
      cases bq
      · go_wp2_with (go_at_fn g; refine (c2.out).mono ?_; rintro e w3 ⟨rfl, hb3⟩)
        go_roundw
        case rel => exact ⟨j + 1, by omega, by go_num, fun k hk hkj => by rcases Nat.lt_succ_iff_lt_or_eq.1 hkj with h | rfl; exact HN.out k hk h; exact HBQ.out.symm, HB.out.trans (hb3.mono (by omega))⟩
        case measure => (simp [intOf]; try omega)
      · have e1 := Lib.hid (idxOf_some hlt HN.out HBQ.out.symm)
        go_wp2_with (go_at_fn g; refine (c2.out).mono ?_; rintro e w3 ⟨rfl, hb3⟩)
        go_ret
        exact ⟨ret_int e1.out.symm, HB.out.trans (hb3.mono (by omega))⟩
    · have e1 := Lib.hid (idxOf_none (q := q) (l := l) (fun k hk => HN.out k hk (by omega)))
      go_wp2_with fail
      go_ret
      exact ⟨ret_int e1.out.symm, HB.out⟩

def runQ (many : Int) (r : Run) : Bool := decide (many ≤ r.many)
set_option maxHeartbeats 1000000 in
set_option maxRecDepth 100000 in
theorem fitQ_any (r : Run) (many : Int) (b : Nat) (w : World) (hc : w.cell? ⟨b, 0, none⟩ = some (.int .i64 many)) (hb : b < w.heap.size) :
    Calls Try.prog 82 #[r.v, .pointer (some ⟨b, 0, none⟩)] w fun e w' => e = .returned (.bool (runQ many r)) ∧ Below w.heap.size w w' := by
  have hne : b ≠ w.heap.size := by omega
  have e : decide (many ≤ r.many) = runQ many r := rfl
  go_enter Try.func82, Try.ntmps82
  go_wp2_with fail
  go_ret
  exact ⟨ret_bool (by first | exact e | rfl), (Below.refl _ _).alloc (Nat.le_refl _) _⟩
theorem fit_cases (many : Int) (l : List Run) : (idxOf (runQ many) l = -1 ∧ fitIn many l = -1) ∨ ∃ j, ∃ h : j < l.length, idxOf (runQ many) l = j ∧ fitIn many l = l[j].first := by
  rcases find_cases (runQ many) l with ⟨e1, e2⟩ | ⟨j, hj, e1, e2⟩
  · exact .inl ⟨e1, by unfold fitIn; rw [show (fun r : Run => decide (many ≤ r.many)) = runQ many from rfl, e2]⟩
  · exact .inr ⟨j, hj, e1, by unfold fitIn; rw [show (fun r : Run => decide (many ≤ r.many)) = runQ many from rfl, e2]⟩

set_option maxHeartbeats 2000000 in
set_option maxRecDepth 100000 in
theorem Fit_any (A : Option Addr) (c : Nat) (l : List Plc) (many : Int) (w : World) (h : PlsOk w A l) (hr : regErr l = 0) :
    Calls Try.prog 41 #[.slice A l.length c, .int .i64 many] w fun e w' => e = .returned (.int .i64 (fitIn many (runsOf l))) ∧ Below w.heap.size w w' := by
  obtain ⟨w0, hw0⟩ : ∃ w0, w0 = w.alloc (.cells #[.int .i64 many] 3) := ⟨_, rfl⟩
  have hx0 : Boxed w0 w.heap.size 3 (.int .i64 many) := hw0 ▸ Boxed.new _ _ _
  have hz0 : w0.heap.size = w.heap.size + 1 := by subst hw0; simp
  have hb0 : Below w.heap.size w w0 := by subst hw0; exact (Below.refl _ _).alloc (Nat.le_refl _) _
  have hw0' := hw0.symm
  have HX := Lib.hid hx0
  have HB := Lib.hid hb0
  have HS := Lib.hid (show (runsOf l).length ≤ 9 by have := runsFrom_length l 0; have := (reg_row hr).1; unfold runsOf; omega)
  have c1 := Lib.hid (Runs_any A c l w0 (h.below hb0) hr)
  have h0 := Lib.hid (fit_cases many (runsOf l))
  obtain ⟨R, hR⟩ : ∃ R, R = runsOf l := ⟨_, rfl⟩
  rw [← hR] at c1 h0 HS ⊢
  have c2 := Lib.hid (fun A' c' W (hb : Below w0.heap.size w0 W) (hrow : RunRow W A' R) => IdxRun_any A' c' R 82 #[.pointer (some ⟨w.heap.size, 0, none⟩)] (runQ many) W (enters_of Try.func82 (by kernel_rfl) rfl) hrow (by have := HS.out; unfold big; omega)
    (fun x _ W' hb' => fitQ_any x many w.heap.size W' (box_below (box_below HX.out hb (by omega)) hb' (by have := hb.size; omega)).cell (by have := hb.size; have := hb'.size; omega)))
  clear hw0 hx0 hb0 h hr hR
  rcases h0.out with ⟨e1, e2⟩ | ⟨j, hj, e1, e2⟩
  · rw [e1] at c2
    rw [e2]
    clear e1 e2 h0
    go_enter Try.func41, Try.ntmps41
    go_wp2_with (first | (go_at_call 40; refine (c1.out).mono ?_; rintro e w2 ⟨⟨A', c', rfl, hrow⟩, hb2⟩; have HR := Lib.hid hrow; clear hrow) | (go_at_call 81; refine (c2.out _ _ _ hb2 HR.out).mono ?_; rintro e w3 ⟨rfl, hb3⟩))
    go_ret
    exact ⟨rfl, HB.out.trans ((hb2.mono (by omega)).trans (hb3.mono (by have := hb2.size; omega)))⟩
  · rw [e1] at c2
    rw [e2]
    have hj' : (j : Int) < R.length := by omega
    have hj0 : (0 : Int) ≤ j := by omega
    clear e1 e2 h0
    go_enter Try.func41, Try.ntmps41
    go_wp2_with (first | (go_at_call 40; refine (c1.out).mono ?_; rintro e w2 ⟨⟨A', c', rfl, hrow⟩, hb2⟩; have HR := Lib.hid hrow; clear hrow) | (go_at_call 81; refine (c2.out _ _ _ hb2 HR.out).mono ?_; rintro e w3 ⟨rfl, hb3⟩; obtain ⟨ad, rfl, hab, k0, k1⟩ := run_at HR.out hb3 j hj))
    go_ret
    exact ⟨rfl, HB.out.trans ((hb2.mono (by omega)).trans (hb3.mono (by have := hb2.size; omega)))⟩

set_option maxHeartbeats 2000000 in
set_option maxRecDepth 100000 in
theorem First_any (A : Option Addr) (c : Nat) (l : List Plc) (many : Int) (w : World) (h : PlsOk w A l) :
    Calls Try.prog 13 #[.slice A l.length c, .int .i64 many] w fun e w' => e = .returned (.tuple #[.int .i64 (firstOf l many).1, .int .i64 (firstOf l many).2]) ∧ Below w.heap.size w w' := by
  have c1 := Lib.hid (RCheck_any A c l w h)
  have c2 := Lib.hid (fun W (hb : Below w.heap.size w W) hr => Fit_any A c l many W (h.below hb) hr)
  obtain ⟨V, hV⟩ : ∃ V, V = firstOf l many := ⟨_, rfl⟩
  rw [← hV]
  unfold firstOf at hV
  obtain ⟨E, hE⟩ : ∃ E, E = regErr l := ⟨_, rfl⟩
  rw [← hE] at c1 c2 hV
  obtain ⟨n, hn⟩ : ∃ n, n = fitIn many (runsOf l) := ⟨_, rfl⟩
  simp only [← hn] at c2 hV
  clear hE h hn
  by_cases t0 : E = 0
  · obtain rfl := t0
    rw [if_neg (by omega)] at hV
    have c3 := Lib.hid (fun W hb => c2.out W hb rfl)
    clear c2
    by_cases t1 : many < 1
    · rw [if_pos (.inl t1)] at hV
      subst hV
      clear c3
      go_enter Try.func13, Try.ntmps13
      go_wp2_with (first | (go_at_call 39; refine (c1.out).mono ?_; rintro e w2 ⟨rfl, hb2⟩))
      go_ret2
      exact ⟨rfl, hb2⟩
    have t1' : decide (many < 1) = false := by simp; omega
    by_cases t2 : 16 < many
    · rw [if_pos (.inr t2)] at hV
      subst hV
      clear c3 t1
      go_enter Try.func13, Try.ntmps13
      go_wp2_with (first | (go_at_call 39; refine (c1.out).mono ?_; rintro e w2 ⟨rfl, hb2⟩))
      go_ret2
      exact ⟨rfl, hb2⟩
    have t2' : decide (16 < many) = false := by simp; omega
    rw [if_neg (by omega)] at hV
    clear t1 t2
    by_cases t3 : n < 0
    · rw [if_pos t3] at hV
      subst hV
      go_enter Try.func13, Try.ntmps13
      go_wp2_with (first | (go_at_call 39; refine (c1.out).mono ?_; rintro e w2 ⟨rfl, hb2⟩) | (go_at_call 41; refine (c3.out _ hb2).mono ?_; rintro e w3 ⟨rfl, hb3⟩))
      go_ret2
      exact ⟨rfl, hb2.trans (hb3.mono hb2.size)⟩
    · rw [if_neg t3] at hV
      subst hV
      have t3' : decide (n < 0) = false := by simp; omega
      clear t3
      go_enter Try.func13, Try.ntmps13
      go_wp2_with (first | (go_at_call 39; refine (c1.out).mono ?_; rintro e w2 ⟨rfl, hb2⟩) | (go_at_call 41; refine (c3.out _ hb2).mono ?_; rintro e w3 ⟨rfl, hb3⟩))
      go_ret2
      exact ⟨rfl, hb2.trans (hb3.mono hb2.size)⟩
  · rw [if_pos t0] at hV
    subst hV
    have t0' : (E != 0) = true := by simp [t0]
    clear t0 c2
    go_enter Try.func13, Try.ntmps13
    go_wp2_with (first | (go_at_call 39; refine (c1.out).mono ?_; rintro e w2 ⟨rfl, hb2⟩))
    go_ret2
    exact ⟨rfl, hb2⟩

set_option maxHeartbeats 1000000 in
set_option maxRecDepth 100000 in
theorem Size_any (m : Mod) (w : World) (h : m.ok w) :
    Calls Try.prog 11 #[m.v] w fun e w' => e = .returned (.tuple #[.int .i64 (if modErr m ≠ 0 then 0 else manyOf m), .int .i64 (modErr m)]) ∧ Below w.heap.size w w' := by
  obtain ⟨w0, hw0⟩ : ∃ w0, w0 = w.alloc (.cells #[.string m.name, .int .i64 m.major, .int .i64 m.minor, .string m.text, .slice m.eA m.ex.length m.eC, .slice m.iA m.im.length m.iC, .slice m.pA m.pa.length m.pC] 26) := ⟨_, rfl⟩
  obtain ⟨e0, e1, e2, e3, e4, e5, e6, hz, hb⟩ := box7 hw0
  have hw0' := hw0.symm
  have hz0 : w.heap.size < w0.heap.size := by omega
  have H0 := Lib.hid hb
  have c1 := Lib.hid (Check_any m w0 (h.below hb))
  have c2 := Lib.hid (fun W => Many_any m W h.text)
  obtain ⟨E, hE⟩ : ∃ E, E = modErr m := ⟨_, rfl⟩
  rw [← hE] at c1 ⊢
  obtain ⟨M, hM⟩ : ∃ M, M = manyOf m := ⟨_, rfl⟩
  rw [← hM] at c2 ⊢
  clear hw0 hb h hE hM
  by_cases t0 : E = 0
  · obtain rfl := t0
    rw [if_neg (by omega)]
    go_enter Try.func11, Try.ntmps11
    go_wp2_with (first | (go_at_call 36; refine (c1.out).mono ?_; rintro e w2 ⟨rfl, hb2⟩; obtain ⟨hcw2, hfw2⟩ := bcell hb2; have hz2 : w.heap.size < w2.heap.size := by have := hb2.size; omega) | (go_at_call 38; refine (c2.out _).mono ?_; rintro e w3 ⟨rfl, hb3⟩))
    go_ret2
    exact ⟨rfl, (H0.out.trans (hb2.mono (by omega))).trans (hb3.mono (by omega))⟩
  · have t0' : (E != 0) = true := by simp [t0]
    rw [if_pos t0]
    clear t0
    go_enter Try.func11, Try.ntmps11
    go_wp2_with (first | (go_at_call 36; refine (c1.out).mono ?_; rintro e w2 ⟨rfl, hb2⟩))
    go_ret2
    exact ⟨rfl, H0.out.trans (hb2.mono (by omega))⟩

end Go.Proofs.Ytdpacbdejfjkcaa
