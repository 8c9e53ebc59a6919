import Derived.Test.YtjnfemcfohflnaaNameW
import Derived.Maps.OwnOps
import Derived.Maps.Views
/- Exports (chapter B): module.Exports: names are counted in a map. -/
namespace Go.Proofs.Ytjnfemcfohflnaa
open Go.RowKit Go.Maps Go.WideMaps

theorem Try.law : Keyed Try.prog 9 := string_keyed Try.underlying9
theorem Try.zeroI (w : World) : (zeroValue 3).run Try.prog w = .ok (.int .i64 0) w := by kernel_rfl

def huge : Nat := 1000000000000000000
def cnt (ks : List ByteArray) (s : ByteArray) : Int := ((ks.filter (fun k => decide (k = s))).length : Nat)
theorem cnt_snoc (ks : List ByteArray) (x s : ByteArray) : cnt (ks ++ [x]) s = if x = s then cnt ks s + 1 else cnt ks s := by
  unfold cnt; rw [List.filter_append, List.length_append]
  by_cases h : x = s <;> simp [h]
theorem cnt_le (ks : List ByteArray) (s : ByteArray) : 0 ≤ cnt ks s ∧ cnt ks s ≤ ks.length := by
  unfold cnt; have := List.length_filter_le (fun k => decide (k = s)) ks; omega
theorem cnt_pos {ks : List ByteArray} {s : ByteArray} : 0 < cnt ks s ↔ s ∈ ks := by
  unfold cnt
  constructor
  · intro h
    have : 0 < (ks.filter (fun k => decide (k = s))).length := by omega
    obtain ⟨x, hx⟩ := List.exists_mem_of_length_pos this
    obtain ⟨h1, h2⟩ := List.mem_filter.1 hx
    obtain rfl : x = s := by simpa using h2
    exact h1
  · intro h
    have : 0 < (ks.filter (fun k => decide (k = s))).length := List.length_pos_of_mem (List.mem_filter.2 ⟨h, by simp⟩)
    omega
theorem cnt_wf {ks : List ByteArray} {s : ByteArray} {n : Nat} (h : ks.length ≤ n) (hn : n ≤ 140737488351232) : (Lit.int .i64 (cnt ks s + 1)).wf = true := by
  have := cnt_le ks s
  exact WalkArith.wf_i64 (by omega)
theorem cnt_wrap {ks : List ByteArray} {s : ByteArray} {n : Nat} (h : ks.length ≤ n) (hn : n ≤ 140737488351232) : wrap64 (cnt ks s + 1) = cnt ks s + 1 := by
  have := cnt_le ks s
  exact IntWalk.wrap64_in _ (by omega)
theorem lt_maxLen {j n : Nat} (h : j < n) (hn : n ≤ 140737488351232) : j < maxLen := by unfold maxLen; omega
/-- block b is a map of at most n entries that tells how often each name stands in ks -/
def Counts (w : World) (b n : Nat) (ks : List ByteArray) : Prop :=
  ∃ D : DataW Unit, w.ownsMap Try.prog 9 (plainElem Try.prog 3) b n D ∧ ∀ s : ByteArray, D.atKey (.string s.data.toList) (.lit (.int .i64 0)) = .lit (.int .i64 (cnt ks s))
theorem Counts.put {w w' : World} {b n : Nat} {ks : List ByteArray} {D : DataW Unit} {x : ByteArray} (h0 : w.ownsMap Try.prog 9 (plainElem Try.prog 3) b n D)
    (h : w'.ownsMap Try.prog 9 (plainElem Try.prog 3) b (n + 1) (D.put (.string x.data.toList) (.lit (.int .i64 (cnt ks x + 1)))))
    (hD : ∀ s : ByteArray, D.atKey (.string s.data.toList) (.lit (.int .i64 0)) = .lit (.int .i64 (cnt ks s))) : 
    ∀ s : ByteArray, (D.put (.string x.data.toList) (.lit (.int .i64 (cnt ks x + 1)))).atKey (.string s.data.toList) (.lit (.int .i64 0)) = .lit (.int .i64 (cnt (ks ++ [x]) s)) := by
  intro s
  have hm : IsMap D := by obtain ⟨es, clock, _, _, _, rfl⟩ := h0; exact ⟨_, rfl⟩
  rw [cnt_snoc]
  by_cases e : x = s
  · subst e
    rw [if_pos rfl]
    exact atKey_put_same hm (by simp [WideAt.IsKeyLit]) _ _
  · rw [if_neg e, atKey_put_other, hD]
    intro h
    simp only [Lit.string.injEq] at h
    exact e (ba_eq h.symm)
theorem Counts.alloc {w : World} {b n : Nat} {ks : List ByteArray} (h : Counts w b n ks) (o : Obj) : Counts (w.alloc o) b n ks := by
  obtain ⟨D, h1, h2⟩ := h; exact ⟨D, h1.alloc o, h2⟩
theorem Counts.lt {w : World} {b n : Nat} {ks : List ByteArray} (h : Counts w b n ks) : b < w.heap.size := by
  obtain ⟨D, h1, h2⟩ := h; exact h1.lt
theorem Counts.kept {w w' : World} {b n B : Nat} {ks : List ByteArray} (h : Counts w b n ks) (hb : Below B w w') (hB : b < B) : Counts w' b n ks := by
  obtain ⟨D, ⟨es, clock, hb', F, hs, hD⟩, h2⟩ := h
  exact ⟨D, ⟨es, clock, (hb.block b hB).trans hb', F, hs, hD⟩, h2⟩
theorem Counts.made (w : World) : Counts (w.alloc (.map #[] 0)) w.heap.size 0 [] := ⟨.map [], World.ownsMap_made _ _ _ _, fun _ => rfl⟩
theorem counts_lookup (w : World) {ops : Array Oper} {rest : List Oper} {o : Oper} {a : Act} {Q : Exit → Act → World → Prop}
    (hg : o.guard = none) (m x : Operand) (hop : o.op = Op.lookup 95 m x false) (b n : Nat) (ks : List ByteArray) (h : Counts w b n ks) (s : ByteArray) (hs : s.size ≤ huge)
    (hm : a.eval m = .map (some b)) (hx : a.eval x = .string s) (c : Int) (hc : c = cnt ks s)
    (hK : wpList Try.prog ops Q rest (a.put o.dst (.int .i64 c)) w) : wpList Try.prog ops Q (o :: rest) a w := by
  obtain ⟨D, hown, hD⟩ := h
  refine wpList_lookup_own_int w hg m x 95 hop 9 3 .i64 Try.law Try.underlying95 Try.underlying3 (Try.zeroI _) b n D hm hown _ _ hx (keyOf_string_mk Try.underlying9 (by unfold maxLen; unfold huge at hs; omega)) ?_
  intro c2 hat _
  obtain rfl : c = c2 := by
    have := (hD s).symm.trans hat
    rw [hc]; simpa using this
  exact hK
theorem counts_update (w : World) {ops : Array Oper} {rest : List Oper} {o : Oper} {a : Act} {Q : Exit → Act → World → Prop}
    (hg : o.guard = none) (m x v : Operand) (hop : o.op = Op.mapUpdate 95 m x v) (b n : Nat) (ks : List ByteArray) (h : Counts w b n ks) (s : ByteArray) (hs : s.size ≤ huge)
    (hn : ks.length ≤ big) (hj : n ≤ big) (hm : a.eval m = .map (some b)) (hx : a.eval x = .string s) (c : Int) (hc : c = cnt ks s) (hv : a.eval v = .int .i64 (wrap64 (c + 1)))
    (hK : ∀ w', Counts w' b (n + 1) (ks ++ [s]) → w.grownBy w' (some b) → wpList Try.prog ops Q rest (a.put o.dst undef) w') : wpList Try.prog ops Q (o :: rest) a w := by
  obtain ⟨D, hown, hD⟩ := h
  have hw : wrap64 (c + 1) = c + 1 := by rw [hc]; exact cnt_wrap hn (by unfold big; omega)
  rw [hw] at hv
  refine wpList_mapUpdate_own w hg m x v 95 hop 9 3 Try.law Try.underlying95 (plainElem Try.prog 3) b n D hm hown (by unfold maxLen; unfold big at hj; omega) _ _ _ hx hv
    (keyOf_string_mk Try.underlying9 (by unfold maxLen; unfold huge at hs; omega)) (.lit (.int .i64 (c + 1))) [] (plainElem_int Try.underlying3 (by rw [hc]; exact cnt_wf hn (by unfold big; omega))) ?_
  intro w' h1 h2
  rw [hc] at h1
  exact hK w' ⟨_, h1, Counts.put hown h1 hD⟩ h2
theorem made_kept {w w1 : World} {cs : Array Value} {t : TypeId} {B : Nat} (h : (w.alloc (.cells cs t)).grownBy w1 (some B)) (hB : B < w.heap.size) :
    (∀ i u, cs[i]? = some u → w1.cell? ⟨w.heap.size, i, none⟩ = some u) ∧ w.heap.size < w1.heap.size ∧ Below B w w1 := by
  have hnb : w.heap.size < (w.alloc (.cells cs t)).heap.size := by simp
  refine ⟨fun i u hu => ?_, Nat.lt_of_lt_of_le hnb h.size, ((Below.refl B w).alloc (by omega) _).grown h (by simp; omega) (by simp)⟩
  refine (World.cell?_of_block (h.block _ hnb (by simp; omega))).trans ?_
  rw [World.cell?_alloc_new]; exact hu
theorem take_map_snoc {α β : Type} (l : List α) (f : α → β) (j : Nat) (h : j < l.length) : (l.take (j + 1)).map f = (l.take j).map f ++ [f l[j]] := by
  rw [← List.take_append_getElem h, List.map_append]; rfl
theorem mem_take_map {α β : Type} (l : List α) (f : α → β) (j : Nat) (h : j ≤ l.length) (s : β) : s ∈ (l.take j).map f ↔ ∃ k, ∃ hk : k < l.length, k < j ∧ f l[k] = s := by
  rw [List.mem_map]
  constructor
  · rintro ⟨z, hz, rfl⟩
    rw [List.mem_take_iff_getElem] at hz
    obtain ⟨k, hk1, rfl⟩ := hz
    exact ⟨k, by omega, by omega, rfl⟩
  · rintro ⟨k, hk, hkj, rfl⟩
    exact ⟨l[k], by rw [List.mem_take_iff_getElem]; exact ⟨k, by omega, rfl⟩, rfl⟩

set_option maxHeartbeats 2000000 in
set_option maxRecDepth 100000 in
theorem MExports_any (A : Option Addr) (c : Nat) (l : List Exp) (most : Int) (w : World) (h : ExpsOk w A l) (hm : 0 ≤ most) (hm2 : most ≤ big) :
    Calls Try.prog 30 #[.slice A l.length c, .int .i64 most] w fun e w' => e = .returned (.int .i64 (expErr [] most l)) ∧ Below w.heap.size w w' := by
  obtain ⟨hr, hl, hs⟩ := h
  unfold big at hl hm2
  have HR := Lib.hid hr
  have HS := Lib.hid hs
  clear hr hs
  have q1 : wrap64 (most - 1) = most - 1 := IntWalk.wrap64_in _ (by omega)
  have hmm := @run_makeMap Try.prog
  go_enter Try.func30, Try.ntmps30
  go_wp2_with fail
  go_loopw [11] (fun i wr => ∃ j : Nat, j ≤ l.length ∧ i = .int .i64 j ∧ expFrom l most j = expErr [] most l ∧ Counts wr w.heap.size j ((l.take j).map (·.name)) ∧ Below w.heap.size w wr) (fun i _ => l.length - (intOf i).toNat)
  case atStart => exact ⟨0, by omega, rfl, rfl, Counts.made _, (Below.refl _ _).alloc (Nat.le_refl _) _⟩
  case round =>
    obtain ⟨j, hj, rfl, hE, hco, hb⟩ := hrel
    have HE := Lib.hid hE
    have HB := Lib.hid hb
    have HC := Lib.hid hco
    clear hE hco
    by_cases hlt : j < l.length
    · have hlt' : (j : Int) < l.length := by omega
      obtain ⟨ad, rfl, hab, h0, h1⟩ := exp_at HR.out hb j hlt
      have hsz := HS.out l[j] (List.getElem_mem _)
      have hsh := Lib.hid (show (l[j]'hlt).name.size ≤ huge by unfold huge; unfold big at hsz; omega)
      have hsm := Lib.hid (take_map_snoc l (·.name) j hlt)
      have hmt := Lib.hid (mem_take_map l (·.name) j (by omega) l[j].name)
      obtain ⟨ks, hks⟩ : ∃ ks, ks = (l.take j).map (·.name) := ⟨_, rfl⟩
      rw [← hks] at hsm hmt HC
      have hkl := Lib.hid (show ks.length ≤ big by rw [hks]; simp; unfold big; omega)
      have hjl := Lib.hid (show j ≤ big by unfold big; omega)
      have hbk : w.heap.size < wr.heap.size := HC.out.lt
      have hwb : w.heap.size ≠ wr.heap.size := by omega
      obtain ⟨cn, hcn⟩ : ∃ cn, cn = cnt ks (l[j]'hlt).name := ⟨_, rfl⟩
      have q2 : wrap64 (cn + 1) = cn + 1 := by rw [hcn]; exact cnt_wrap hkl.out (by unfold big; omega)
      have hcp := Lib.hid (cnt_pos (ks := ks) (s := (l[j]'hlt).name))
      have hcs := Lib.hid (cnt_snoc ks (l[j]'hlt).name (l[j]'hlt).name)
      rw [← hcn] at hcp hcs
      have HCN := Lib.hid hcn
      have c1 := Lib.hid (fun W => Name_any (l[j]'hlt).name W hsz)
      clear hb hks hcn
      rw [if_pos rfl] at hcs
      have c2 := Lib.hid (fun W => within_any (l[j]'hlt).at_ 0 (most - 1) W)
      obtain ⟨bn, hbn⟩ : ∃ bn, bn = isName (l[j]'hlt).name := ⟨_, rfl⟩
      rw [← hbn] at c1
      have HBN := Lib.hid hbn
      clear hbn
      cases bn
      · have e1 := Lib.hid ((expFrom_form (most := most) hlt HBN.out.symm).symm.trans HE.out)
        go_wp2_with (first
        | (at_lookup; refine counts_lookup _ rfl _ _ rfl w.heap.size (j + 1) (ks ++ [(l[j]'hlt).name]) (hco1.kept hb2 (by omega)) (l[j]'hlt).name hsh.out rfl rfl (cn + 1) hcs.out.symm ?_)
        | (at_lookup; refine counts_lookup _ rfl _ _ rfl w.heap.size j ks (HC.out.alloc _) (l[j]'hlt).name hsh.out rfl rfl cn HCN.out ?_)
        | (at_mapUpdate; refine counts_update _ rfl _ _ _ rfl w.heap.size j ks (HC.out.alloc _) (l[j]'hlt).name hsh.out hkl.out hjl.out rfl rfl cn HCN.out rfl ?_; intro w1 hco1 hgrow1; obtain ⟨hf, hz1, hbb⟩ := made_kept hgrow1 hbk; have f0 := hf 0 _ rfl; have f1 := hf 1 _ rfl; clear hf)
        | (go_at_call 43; refine (c1.out _).mono ?_; rintro e w2 ⟨rfl, hb2⟩; obtain ⟨hc2, hf2⟩ := bcell hb2)
        | (go_at_call 44; refine (c2.out _).mono ?_; rintro e w' ⟨rfl, rfl⟩))
        go_ret
        exact ⟨ret_int e1.out, (HB.out.trans hbb).trans (hb2.mono (by omega))⟩
      by_cases hmm2 : 0 < cn
      · obtain ⟨k, hk, hkj, hkn⟩ := hmt.out.1 (hcp.out.1 hmm2)
        have e1 := Lib.hid ((expFrom_twice (most := most) hlt HBN.out.symm hk hkj hkn).symm.trans HE.out)
        have t1 : (1 : Int) < cn + 1 := by omega
        clear hmm2
        go_wp2_with (first
        | (at_lookup; refine counts_lookup _ rfl _ _ rfl w.heap.size (j + 1) (ks ++ [(l[j]'hlt).name]) (hco1.kept hb2 (by omega)) (l[j]'hlt).name hsh.out rfl rfl (cn + 1) hcs.out.symm ?_)
        | (at_lookup; refine counts_lookup _ rfl _ _ rfl w.heap.size j ks (HC.out.alloc _) (l[j]'hlt).name hsh.out rfl rfl cn HCN.out ?_)
        | (at_mapUpdate; refine counts_update _ rfl _ _ _ rfl w.heap.size j ks (HC.out.alloc _) (l[j]'hlt).name hsh.out hkl.out hjl.out rfl rfl cn HCN.out rfl ?_; intro w1 hco1 hgrow1; obtain ⟨hf, hz1, hbb⟩ := made_kept hgrow1 hbk; have f0 := hf 0 _ rfl; have f1 := hf 1 _ rfl; clear hf)
        | (go_at_call 43; refine (c1.out _).mono ?_; rintro e w2 ⟨rfl, hb2⟩; obtain ⟨hc2, hf2⟩ := bcell hb2)
        | (go_at_call 44; refine (c2.out _).mono ?_; rintro e w' ⟨rfl, rfl⟩))
        go_ret
        exact ⟨ret_int e1.out, (HB.out.trans hbb).trans (hb2.mono (by omega))⟩
      · have hno : ∀ k (hk : k < l.length), k < j → l[k].name ≠ l[j].name := fun k hk hkj e => hmm2 (hcp.out.2 (hmt.out.2 ⟨k, hk, hkj, e⟩))
        have HN := Lib.hid hno
        have t1 : decide ((1 : Int) < cn + 1) = false := by simp; omega
        clear hmm2 hno
        by_cases hr : 0 ≤ l[j].at_ ∧ l[j].at_ < most
        · have e1 := Lib.hid ((expFrom_next hlt HBN.out.symm HN.out hr).trans HE.out)
          have c2 := Lib.hid (fun W => within_t (l[j]'hlt).at_ 0 (most - 1) W hr.1 (by omega))
          clear hr
          go_wp2_with (first
        | (at_lookup; refine counts_lookup _ rfl _ _ rfl w.heap.size (j + 1) (ks ++ [(l[j]'hlt).name]) (hco1.kept hb2 (by omega)) (l[j]'hlt).name hsh.out rfl rfl (cn + 1) hcs.out.symm ?_)
        | (at_lookup; refine counts_lookup _ rfl _ _ rfl w.heap.size j ks (HC.out.alloc _) (l[j]'hlt).name hsh.out rfl rfl cn HCN.out ?_)
        | (at_mapUpdate; refine counts_update _ rfl _ _ _ rfl w.heap.size j ks (HC.out.alloc _) (l[j]'hlt).name hsh.out hkl.out hjl.out rfl rfl cn HCN.out rfl ?_; intro w1 hco1 hgrow1; obtain ⟨hf, hz1, hbb⟩ := made_kept hgrow1 hbk; have f0 := hf 0 _ rfl; have f1 := hf 1 _ rfl; clear hf)
        | (go_at_call 43; refine (c1.out _).mono ?_; rintro e w2 ⟨rfl, hb2⟩; obtain ⟨hc2, hf2⟩ := bcell hb2)
        | (go_at_call 44; refine (c2.out _).mono ?_; rintro e w' ⟨rfl, rfl⟩))
          go_roundw
          case rel => exact ⟨j + 1, by omega, by go_num, e1.out, by rw [hsm.out]; exact hco1.kept hb2 (by omega), (HB.out.trans hbb).trans (hb2.mono (by omega))⟩
          case measure => (simp [intOf]; try omega)
        · have e1 := Lib.hid ((expFrom_range hlt HBN.out.symm HN.out (by omega)).symm.trans HE.out)
          have c2 := Lib.hid (fun W => within_f (l[j]'hlt).at_ 0 (most - 1) W (by omega))
          clear hr
          go_wp2_with (first
        | (at_lookup; refine counts_lookup _ rfl _ _ rfl w.heap.size (j + 1) (ks ++ [(l[j]'hlt).name]) (hco1.kept hb2 (by omega)) (l[j]'hlt).name hsh.out rfl rfl (cn + 1) hcs.out.symm ?_)
        | (at_lookup; refine counts_lookup _ rfl _ _ rfl w.heap.size j ks (HC.out.alloc _) (l[j]'hlt).name hsh.out rfl rfl cn HCN.out ?_)
        | (at_mapUpdate; refine counts_update _ rfl _ _ _ rfl w.heap.size j ks (HC.out.alloc _) (l[j]'hlt).name hsh.out hkl.out hjl.out rfl rfl cn HCN.out rfl ?_; intro w1 hco1 hgrow1; obtain ⟨hf, hz1, hbb⟩ := made_kept hgrow1 hbk; have f0 := hf 0 _ rfl; have f1 := hf 1 _ rfl; clear hf)
        | (go_at_call 43; refine (c1.out _).mono ?_; rintro e w2 ⟨rfl, hb2⟩; obtain ⟨hc2, hf2⟩ := bcell hb2)
        | (go_at_call 44; refine (c2.out _).mono ?_; rintro e w' ⟨rfl, rfl⟩))
          go_ret
          exact ⟨ret_int e1.out, (HB.out.trans hbb).trans (hb2.mono (by omega))⟩
    · have e1 := Lib.hid ((expFrom_end (most := most) hlt).symm.trans HE.out)
      go_wp2_with fail
      go_ret
      exact ⟨ret_int e1.out, HB.out⟩

end Go.Proofs.Ytjnfemcfohflnaa
