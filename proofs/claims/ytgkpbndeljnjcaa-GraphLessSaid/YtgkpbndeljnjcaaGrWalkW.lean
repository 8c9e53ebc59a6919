import Derived.Test.YtgkpbndeljnjcaaGrNamW
import Derived.Test.YtgkpbndeljnjcaaGrDirW
import Derived.Test.YtgkpbndeljnjcaaExp2W
import Derived.Test.YtgkpbndeljnjcaaGrVisit
/- The walk in depth (chapter E): walker.walk, graph.reach. -/
namespace Go.Proofs.Ytgkpbndeljnjcaa
open Go.RowKit Go.Maps Go.WideMaps Go.Sort
open Gs (Tx)

theorem cnt_perm {ks ks' : List ByteArray} (h : ks.Perm ks') (s : ByteArray) : cnt ks s = cnt ks' s := by
  unfold cnt; rw [(h.filter _).length_eq]
theorem Counts.perm {w : World} {b n : Nat} {ks ks' : List ByteArray} (h : Counts w b n ks) (p : ks.Perm ks') : Counts w b n ks' := by
  obtain ⟨D, h1, h2⟩ := h
  exact ⟨D, h1, fun s => by rw [h2, cnt_perm p]⟩
/-- the map in block b: who is met -/
def Mt (w : World) (b : Nat) (M : List Tx) : Prop := Counts w b M.length (M.map bs)
theorem Mt.put {w : World} {b : Nat} {M : List Tx} {s : Tx} (h : Counts w b (M.length + 1) (M.map bs ++ [bs s])) : Mt w b (s :: M) := by
  unfold Mt
  refine Counts.perm h ?_
  rw [List.map_cons]
  exact List.perm_append_comm (l₁ := M.map bs) (l₂ := [bs s])
theorem Mt.lt {w : World} {b : Nat} {M : List Tx} (h : Mt w b M) : b < w.heap.size := Counts.lt h
theorem Mt.kept {w w' : World} {b B : Nat} {M : List Tx} (h : Mt w b M) (hb : Below B w w') (hB : b < B) : Mt w' b M := Counts.kept h hb hB
theorem bs_inj {a b : Tx} (h : bs a = bs b) : a = b := by rw [← tx_bs a, h, tx_bs]
theorem met_cnt {M : List Tx} {s : Tx} : 0 < cnt (M.map bs) (bs s) ↔ s ∈ M := by
  rw [cnt_pos, List.mem_map]
  exact ⟨fun ⟨x, hx, e⟩ => by rw [← bs_inj e]; exact hx, fun h => ⟨s, h, rfl⟩⟩
theorem met_zero {M : List Tx} {s : Tx} (h : s ∉ M) : cnt (M.map bs) (bs s) = 0 := by
  have := cnt_le (M.map bs) (bs s)
  have h2 : ¬ 0 < cnt (M.map bs) (bs s) := fun k => h (met_cnt.1 k)
  omega

/-- a walker that lies in block p, its map in block b -/
structure Wk (w0 : World) (T : List Tx) (tA : Option Addr) (tC g : Nat) (lb : Array Value) (p b : Nat) (w : World) : Prop where
  below : Below w0.heap.size w0 w
  f0 : w.cell? ⟨p, 0, none⟩ = some (.slice tA T.length tC)
  f1 : w.cell? ⟨p, 1, none⟩ = some (.map (some b))
  f2 : w.cell? ⟨p, 2, none⟩ = some (.func (.func g) #[] lb)
  row : TxRow w tA T
  pb : p ≠ b
  low : w0.heap.size ≤ b
  rb : ∀ ad, tA = some ad → ad.block ≠ b
  plt : p < w.heap.size
theorem reads_but {w w' : World} {size n b : Nat} {A : Option Addr} {xs : List Value} (h : Reads w w.heap.size size A n xs) (hg : w.grownBy w' (some b)) (hr : ∀ ad, A = some ad → ad.block ≠ b) : Reads w' w'.heap.size size A n xs :=
  ⟨h.1, fun hn => by
    obtain ⟨ad, e, hlt, hc⟩ := h.2 hn
    refine ⟨ad, e, Nat.lt_of_lt_of_le hlt hg.size, fun j u hu => hg.cell (hc j u hu) ?_⟩
    rw [block_of_add]
    exact fun q => hr ad e (Option.some.inj q)⟩
theorem Wk.keep {w0 : World} {T : List Tx} {tA : Option Addr} {tC g : Nat} {lb : Array Value} {p b : Nat} {w w' : World} (h : Wk w0 T tA tC g lb p b w) (hg : w.grownBy w' (some b)) : Wk w0 T tA tC g lb p b w' where
  below := h.below.grown hg h.below.size (fun k hk => by cases hk; exact h.low)
  f0 := hg.cell h.f0 (fun q => h.pb (Option.some.inj q))
  f1 := hg.cell h.f1 (fun q => h.pb (Option.some.inj q))
  f2 := hg.cell h.f2 (fun q => h.pb (Option.some.inj q))
  row := reads_but h.row hg h.rb
  pb := h.pb
  low := h.low
  rb := h.rb
  plt := Nat.lt_of_lt_of_le h.plt hg.size

section
variable (w0 : World) (T : List Tx) (tA : Option Addr) (tC g : Nat) (lb : Array Value) (p b : Nat) (r : Tx → Tx → Bool)
set_option maxHeartbeats 4000000 in
set_option maxRecDepth 100000 in
theorem walk_any (eg : ∀ args w, (callFunc g args).run Try.prog w = .ok (.enter g args) w) (hT8 : T.length ≤ 8) (hs : ∀ t ∈ T, (bs t).size ≤ huge)
    (hq : ∀ x ∈ T, ∀ y ∈ T, ∀ W, Below w0.heap.size w0 W → Calls Try.prog g (#[.string (bs x), .string (bs y)] ++ lb) W fun e w' => e = .returned (.bool (r x y)) ∧ Below W.heap.size W w') :
    ∀ (f : Nat) (a : Tx) (M : List Tx) (w : World), Gr.unmet T M + 1 ≤ f → a ∈ T → M.Nodup → (∀ x ∈ M, x ∈ T) → Wk w0 T tA tC g lb p b w → Mt w b M →
    Calls Try.prog 71 #[.pointer (some ⟨p, 0, none⟩), .string (bs a)] w fun e w' => e = .returned (.tuple #[]) ∧ Mt w' b (Gr.visit T r f M a) ∧ w.grownBy w' (some b)
  | 0, a, M, w, hf, _, _, _, _, _ => by omega
  | f + 1, a, M, w, hf, ha, hn, hin, hk, hm => by
    have ih := Lib.hid (walk_any eg hT8 hs hq f)
    have HS := Lib.hid hs
    have HQ := Lib.hid hq
    have HF := Lib.hid hf
    have HA := Lib.hid ha
    have HN := Lib.hid hn
    have HI := Lib.hid hin
    have HK := Lib.hid hk
    have HM := Lib.hid hm
    have a0 := hk.f0
    clear hs hq hf ha hn hin hm hk
    go_enter Try.func71, Try.ntmps71
    go_wp2_with fail
    clear a0
    go_loopw [11] (fun i wr => ∃ j : Nat, j ≤ T.length ∧ i = .int .i64 j ∧ Mt wr b (Gr.sofar T r f a M j) ∧ w.grownBy wr (some b)) (fun i _ => T.length - (intOf i).toNat)
    case atStart => exact ⟨0, by omega, rfl, HM.out, World.grownBy.refl _ _⟩
    case round =>
      obtain ⟨j, hj, rfl, hmt, hgr⟩ := hrel
      have HT := Lib.hid hmt
      have HG := Lib.hid hgr
      have HW := Lib.hid (HK.out.keep hgr)
      have hblt := hmt.lt
      have hplt := HW.out.plt
      clear hmt hgr
      by_cases hlt : j < T.length
      · have hlt' : (j : Int) < T.length := by omega
        obtain ⟨ad, hA, hab, h0⟩ := tx_at HW.out.row (Below.refl _ _) j hlt
        have HADB := Lib.hid (HW.out.rb ad hA)
        subst hA
        have f0 := HW.out.f0
        have f1 := HW.out.f1
        have f2 := HW.out.f2
        have hmem := Lib.hid (show T[j] ∈ T from List.getElem_mem _)
        have HNX := Lib.hid (Gr.sofar_succ (r := r) (f := f) (a := a) (m := M) hlt)
        have KP := Lib.hid (Gr.sofar_keeps T r f a M j)
        obtain ⟨M', hM'⟩ : ∃ M', M' = Gr.sofar T r f a M j := ⟨_, rfl⟩
        rw [← hM'] at HT HNX KP
        clear hM'
        obtain ⟨t, ht⟩ : ∃ t, t = T[j]'hlt := ⟨_, rfl⟩
        rw [← ht] at h0 hmem HNX
        clear ht
        have HL := Lib.hid (Gr.nodup_le (KP.out.nd HN.out) (KP.out.inn HI.out))
        have hsh := Lib.hid (HS.out t hmem.out)
        have hkl := Lib.hid (show (M'.map bs).length ≤ big by rw [List.length_map]; have := HL.out; unfold big; omega)
        have hjl := Lib.hid (show M'.length ≤ big by have := HL.out; unfold big; omega)
        obtain ⟨cn, hcn⟩ : ∃ cn, cn = cnt (M'.map bs) (bs t) := ⟨_, rfl⟩
        have HC := Lib.hid hcn
        by_cases hmem' : t ∈ M'
        · have e1 := Lib.hid (show Gr.sofar T r f a M (j + 1) = M' by rw [HNX.out]; unfold Gr.stp; rw [if_neg (fun h => h.1 hmem')])
          have t0 : (cn == 0) = false := by have := met_cnt.2 hmem'; rw [← hcn] at this; simp; omega
          clear hcn hmem'
          go_wp2_with (at_lookup; refine counts_lookup _ rfl _ _ rfl b M'.length (M'.map bs) HT.out (bs t) hsh.out rfl rfl cn HC.out ?_)
          go_roundw
          case rel => exact ⟨j + 1, by omega, by go_num, by rw [e1.out]; exact HT.out, HG.out⟩
          case measure => (simp [intOf]; try omega)
        · have t0 : (cn == 0) = true := by rw [hcn, met_zero hmem']; rfl
          have HNM := Lib.hid hmem'
          have q2 : wrap64 (cn + 1) = cn + 1 := by rw [hcn, met_zero hmem']; exact IntWalk.wrap64_in _ (by omega)
          obtain ⟨br, hbr⟩ : ∃ br, br = r a t := ⟨_, rfl⟩
          have c2 := Lib.hid (HQ.out a HA.out t hmem.out wr HW.out.below)
          rw [← hbr] at c2
          have HBR := Lib.hid hbr
          clear hcn hmem' hbr
          cases br
          · have e1 := Lib.hid (show Gr.sofar T r f a M (j + 1) = M' by rw [HNX.out]; unfold Gr.stp; rw [if_neg (fun h => by have := HBR.out; rw [h.2] at this; cases this)])
            go_wp2_with (first
              | (at_lookup; refine counts_lookup _ rfl _ _ rfl b M'.length (M'.map bs) HT.out (bs t) hsh.out rfl rfl cn HC.out ?_)
              | (go_at_fn g; refine (c2.out).mono ?_; rintro e w3 ⟨rfl, hb3⟩))
            go_roundw
            case rel => exact ⟨j + 1, by omega, by go_num, by rw [e1.out]; exact HT.out.kept hb3 hblt, HG.out.trans (grown_of_below hb3 _)⟩
            case measure => (simp [intOf]; try omega)
          · have e1 := Lib.hid (show Gr.sofar T r f a M (j + 1) = Gr.visit T r f (t :: M') t by rw [HNX.out]; unfold Gr.stp; rw [if_pos ⟨HNM.out, HBR.out.symm⟩])
            have ih2 := Lib.hid (fun W hk hm => ih.out t (t :: M') W (by
              have h1 := Gr.unmet_lt HNM.out hmem.out
              have h2 := Gr.unmet_le KP.out.sub T
              have h3 := HF.out
              omega) hmem.out (List.nodup_cons.2 ⟨HNM.out, KP.out.nd HN.out⟩) (fun x hx => by
                rcases List.mem_cons.1 hx with rfl | q
                · exact hmem.out
                · exact KP.out.inn HI.out x q) hk hm)
            go_wp2_with (first
              | (at_mapUpdate; refine counts_update _ rfl _ _ _ rfl b M'.length (M'.map bs) (Mt.kept HT.out hb3 hblt) (bs t) hsh.out hkl.out hjl.out rfl rfl cn HC.out rfl ?_; intro w4 hco4 hgrow4; have HCO := Lib.hid (Mt.put hco4); have HG4 := Lib.hid ((grown_of_below hb3 (some b)).trans hgrow4); clear hco4 hgrow4)
              | (at_lookup; refine counts_lookup _ rfl _ _ rfl b M'.length (M'.map bs) (Mt.kept HT.out hb3 hblt) (bs t) hsh.out rfl rfl cn HC.out ?_)
              | (at_lookup; refine counts_lookup _ rfl _ _ rfl b M'.length (M'.map bs) HT.out (bs t) hsh.out rfl rfl cn HC.out ?_)
              | (go_at_fn g; refine (c2.out).mono ?_; rintro e w3 ⟨rfl, hb3⟩; have k0 := (hb3.cell (p := ⟨p, 0, none⟩) hplt).trans f0; have k1 := (hb3.cell (p := ⟨p, 1, none⟩) hplt).trans f1; have k2 := (hb3.cell (p := ⟨p, 2, none⟩) hplt).trans f2)
              | (go_at_call 71; refine (ih2.out _ (HW.out.keep HG4.out) HCO.out).mono ?_; rintro e w5 ⟨rfl, hm5, hg5⟩))
            go_roundw
            case rel => exact ⟨j + 1, by omega, by go_num, by rw [e1.out]; exact hm5, (HG.out.trans HG4.out).trans hg5⟩
            case measure => (simp [intOf]; try omega)
      · have e1 := Lib.hid (Gr.sofar_end (r := r) (f := f) (a := a) (m := M) hlt)
        go_wp2_with fail
        go_end0
        exact ⟨rfl, by rw [← e1.out]; exact HT.out, HG.out⟩
end

end Go.Proofs.Ytgkpbndeljnjcaa
