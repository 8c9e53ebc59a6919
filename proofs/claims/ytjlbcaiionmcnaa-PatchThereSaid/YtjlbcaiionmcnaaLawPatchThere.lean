import Derived.Test.YtjlbcaiionmcnaaPatchBegun
import Derived.Test.YtjlbcaiionmcnaaWordBegun
import Derived.Test.YtjlbcaiionmcnaaFrame
/- PatchThere: bytes elsewhere are as they were, and what is patched tells where the symbol is. No condition. -/
namespace Go.Proofs.Ytjlbcaiionmcnaa
open Go.ChangeShapes Go.WideShapes Go.ChangeAt Go.RowKit Go.WideMaps Go.WideElems
open Go.ChangeMaps (setBlock shut_map_nil open_string shut_string keptBut_setBlock frozen?_setBlock heap_setBlock_same)

theorem apply_ok {z kind at_ add sym base : Int} (h : applyErr z kind at_ add sym base = 0) : widthOf kind ≠ 0 ∧ 0 ≤ add ∧ add ≤ 65535 ∧ 0 ≤ at_ ∧ at_ ≤ z - widthOf kind ∧ 0 ≤ base ∧ base ≤ 65279 ∧ valueErr kind sym add (base + at_) = 0 := by
  unfold applyErr at h
  (repeat' split at h) <;> first | omega | exact ⟨by assumption, by omega, by omega, by omega, by omega, by omega, by omega, h⟩
theorem value_rng (kind sym add place : Int) (h0 : widthOf kind ≠ 0) : 0 ≤ valueNum kind sym add place ∧ valueNum kind sym add place < p256 (widthOf kind).toNat := by
  have hp := p256_pos (widthOf kind).toNat
  unfold valueNum
  split
  · exact ⟨Int.emod_nonneg _ (by omega), Int.emod_lt_of_pos _ (by omega)⟩
  · omega

theorem there_num {kind sym add place v z : Int} {k : Nat} (hv : valueErr kind sym add place = 0) (hvn : v = valueNum kind sym add place) (hz : z = signedNum v (8 * k)) (hk : widthOf kind = k) :
    (kind = 1 ∧ v = sym + add) ∨ (kind = 2 ∧ place + z = sym + add) ∨ (kind = 3 ∧ v = (sym + add) / 65536) ∨ (kind = 4 ∧ v = (sym + add) % 65536) ∨ (kind = 5 ∧ place + 2 * z = sym + add) := by
  obtain ⟨h0, h1, h2, h3, h4, h5, h6, h7⟩ := value_ok hv
  have e4 : p256 4 = 4294967296 := rfl
  have e3 : p256 3 = 16777216 := rfl
  have e2 : p256 2 = 65536 := rfl
  have t4 : (2 : Int) ^ 32 = 4294967296 := rfl
  have t3 : (2 : Int) ^ 24 = 16777216 := rfl
  unfold valueNum at hvn
  rw [if_pos hv, hk, Int.toNat_natCast] at hvn
  rcases widthOf_cases kind with ⟨rfl, h⟩ | ⟨rfl, h⟩ | ⟨rfl, h⟩ | ⟨rfl, h⟩ | ⟨rfl, h⟩ | ⟨_, h⟩
  · rw [show k = 4 by omega, e4] at hvn; simp [valueRaw] at hvn; omega
  · rw [show k = 4 by omega, e4] at hvn; simp [valueRaw] at hvn
    rw [show k = 4 by omega] at hz; simp [signedNum] at hz
    refine .inr (.inl ⟨rfl, ?_⟩)
    (repeat' split at hz) <;> omega
  · rw [show k = 2 by omega, e2] at hvn; simp [valueRaw] at hvn; omega
  · rw [show k = 2 by omega, e2] at hvn; simp [valueRaw] at hvn; omega
  · rw [show k = 3 by omega, e3] at hvn; simp [valueRaw] at hvn
    rw [show k = 3 by omega] at hz; simp [signedNum] at hz
    refine .inr (.inr (.inr (.inr ⟨rfl, ?_⟩)))
    (repeat' split at hz) <;> omega
  · exact absurd h h0

set_option maxRecDepth 100000 in
set_option maxHeartbeats 2000000 in
theorem PatchThere_any (s : ByteArray) (kind at_ y add sym base : Int) (w : World) (hs : s.size ≤ 140737488351232) :
    Calls Try.prog 8 #[.string s, .agg #[.int .i64 kind, .int .i64 at_, .int .i64 y, .int .i64 add], .int .i64 sym, .int .i64 base] w fun e w' => e = .returned (.bool true) ∧ Below w.heap.size w w' := by
  have hb0 : Below w.heap.size w (w.alloc (.cells #[.int .i64 kind, .int .i64 at_, .int .i64 y, .int .i64 add] 36)) := (Below.refl _ _).alloc (Nat.le_refl _) _
  have HB := Lib.hid hb0
  clear hb0
  by_cases hv : applyErr s.size kind at_ add sym base = 0
  · obtain ⟨g0, g1, g2, g3, g4, g5, g6, hve⟩ := apply_ok hv
    obtain ⟨g7, g8⟩ := width_rng kind g0
    obtain ⟨a, rfl⟩ := Int.eq_ofNat_of_zero_le g3
    obtain ⟨k, hk⟩ := Int.eq_ofNat_of_zero_le (show 0 ≤ widthOf kind by omega)
    obtain ⟨v, hvn⟩ : ∃ v, v = valueNum kind sym add (base + a) := ⟨_, rfl⟩
    have hak : a + k ≤ s.size := by omega
    obtain ⟨t, ht⟩ : ∃ t, t = putStr s a k v := ⟨_, rfl⟩
    have hst : applyStr s kind a add sym base = t := by
      unfold applyStr; rw [if_pos hv, ht, ← hvn, show (widthOf kind).toNat = k from by omega]; rfl
    have htz : t.size = s.size := by rw [ht]; exact putStr_size s a k v hak
    have hts : t.size ≤ 140737488351232 := by omega
    have hcw : checkWord t.size a k = 0 := checkWord_of (by omega) (by omega) (by omega) (by omega)
    obtain ⟨hr0, hr1⟩ := value_rng kind sym add (base + a) g0
    rw [← hvn, hk, Int.toNat_natCast] at hr1
    rw [← hvn] at hr0
    have hnum : num ((t.data.toList.drop a).take k) = v := by
      rw [ht, get_put _ _ _ _ hak, num_digits]; exact Int.emod_eq_of_lt hr0 hr1
    have c1 := Lib.hid (fun W => (Apply_any s kind a y add sym base W hs).mono (fun _ _ h => (⟨h.1.trans (ret_sint hst hv), h.2⟩ : _ = Ending.returned (.tuple #[.string t, .int .i64 0]) ∧ _)))
    have c2 := Lib.hid (fun W => (PWidth_any kind W).mono (fun _ _ h => (⟨h.1.trans (ret_ints hk (by rw [if_neg g0])), h.2⟩ : _ = Ending.returned (.tuple #[.int .i64 k, .int .i64 0]) ∧ _)))
    have c3 := Lib.hid (fun W => (Get_ok t a k W hts hcw).mono (fun _ _ h => (⟨h.1.trans (ret_ints hnum rfl), h.2⟩ : _ = Ending.returned (.tuple #[.int .i64 v, .int .i64 0]) ∧ _)))
    obtain ⟨z, hz⟩ : ∃ z, z = signedNum v (8 * k) := ⟨_, rfl⟩
    have hsd := signed_digits v k (by omega) (by omega) hr0 hr1
    have c5 := Lib.hid (fun W => (Signed_any v (8 * k) W).mono (fun _ _ h => (⟨h.1.trans (ret_ints hz.symm hsd.2), h.2⟩ : _ = Ending.returned (.tuple #[.int .i64 z, .int .i64 0]) ∧ _)))
    have hel := Lib.hid (fun i hi hi' ho => put_elsewhere s a k v hak i hi hi' ho)
    rw [← ht] at hel
    have hz1 : t.size ≤ s.size := by omega
    have hz2 : s.size ≤ t.size := by omega
    have HN := Lib.hid (there_num hve hvn hz hk)
    have q7 : 2 ≤ k := by omega
    have q8 : k ≤ 4 := by omega
    have q9 : (a : Int) + k ≤ s.size := by omega
    have vo := value_ok hve
    obtain ⟨_, v1, v2, v3, v4, _⟩ := vo
    clear hv hve hk hvn ht hst htz hcw hr1 hnum hz hsd g0 g4 g7 g8
    go_enter Try.func8, Try.ntmps8
    go_wp2_with fail
    refine (c1.out _).mono ?_; rintro e w1 ⟨rfl, hb1⟩
    obtain ⟨hc1, hf1⟩ := bcell hb1
    have hs1 : w.heap.size < w1.heap.size := by have := hb1.size; simp at this; omega
    go_wp2_with fail
    refine (patchBegun_any _).mono ?_; rintro e w2 ⟨rfl, hb2⟩
    obtain ⟨hc2, hf2⟩ := bcell hb2
    have hs2 : w.heap.size < w2.heap.size := by have := hb2.size; omega
    go_wp2_with fail
    refine (wordBegun_any _).mono ?_; rintro e w3 ⟨rfl, hb3⟩
    obtain ⟨hc3, hf3⟩ := bcell hb3
    have hs3 : w.heap.size < w3.heap.size := by have := hb3.size; omega
    go_wp2_with fail
    refine (c2.out _).mono ?_; rintro e w4 ⟨rfl, hb4⟩
    obtain ⟨hc4, hf4⟩ := bcell hb4
    have hs4 : w.heap.size < w4.heap.size := by have := hb4.size; omega
    go_wp2_with fail
    refine (c3.out _).mono ?_; rintro e w' ⟨rfl, rfl⟩
    go_wp2_with fail
    all_goals
      go_loopw [14] (fun i wr => ∃ j : Nat, j ≤ s.size ∧ i = .int .i64 j ∧ Below w4.heap.size w4 wr) (fun i _ => s.size - (intOf i).toNat)
      case atStart => exact ⟨0, by omega, rfl, Below.refl _ _⟩
      case round =>
        obtain ⟨j, hj, rfl, hbr⟩ := hrel
        obtain ⟨hc5, hf5⟩ := bcell hbr
        have hs5 : w.heap.size < wr.heap.size := by have := hbr.size; omega
        have q1 : IntKind.i64.wrap ((a : Int) + k) = (a : Int) + k := IntWalk.i64_in _ (by omega)
        by_cases hlt : j < s.size
        · have hjt : j < t.size := by omega
          have hjs' : (j : Int) < s.size := by omega
          have hjt' : (j : Int) < t.size := by omega
          by_cases ha : j < a
          · have hE := hel.out j hlt hjt (.inl ha)
            have ha' : (j : Int) < a := by omega
            go_wp2_with fail
            go_quiet (fail)
            go_wp2_with fail
            go_roundw
            case rel => exact ⟨j + 1, by omega, by go_num, below_drewN hbr _⟩
            case measure => (simp [intOf]; try omega)
          · have ha' : decide ((j : Int) < a) = false := by simp; omega
            by_cases hk' : a + k ≤ j
            · have hE := hel.out j hlt hjt (.inr hk')
              have hk2 : (a : Int) + k ≤ j := by omega
              go_wp2_with fail
              go_quiet (fail)
              go_wp2_with fail
              go_roundw
              case rel => exact ⟨j + 1, by omega, by go_num, below_drewN hbr _⟩
              case measure => (simp [intOf]; try omega)
            · have hk2 : decide ((a : Int) + k ≤ j) = false := by simp; omega
              go_wp2_with fail
              go_quiet (fail)
              go_wp2_with fail
              go_roundw
              case rel => exact ⟨j + 1, by omega, by go_num, below_drewN hbr _⟩
              case measure => (simp [intOf]; try omega)
        · go_wp2_with fail
          refine (c5.out _).mono ?_; rintro e w' ⟨rfl, rfl⟩
          have q2 : IntKind.i64.wrap (sym + add) = sym + add := IntWalk.i64_in _ (by omega)
          obtain ⟨sm, hsm⟩ : ∃ sm, sm = sym + add := ⟨_, rfl⟩
          rcases HN.out with ⟨rfl, hn⟩ | ⟨rfl, hn⟩ | ⟨rfl, hn⟩ | ⟨rfl, hn⟩ | ⟨rfl, hn⟩
          all_goals
            go_wp2_with fail
            go_ret
            refine ⟨?_, HB.out.trans ((below_step hb1 (below_step hb2 (below_step hb3 (below_step hb4 hbr)))).mono (by simp))⟩
            first
              | (simp; done)
              | (simp; omega)
              | (have t0 : 0 ≤ sym + add := by omega
                 simp [Int.tdiv_eq_ediv_of_nonneg t0, Int.tmod_eq_emod_of_nonneg t0, hn]; done)
              | skip
  · have hst : applyStr s kind at_ add sym base = ⟨#[]⟩ := by unfold applyStr; rw [if_neg hv]
    have hv' : (applyErr s.size kind at_ add sym base != 0) = true := by simp [hv]
    have c1 := Lib.hid (fun W => (Apply_any s kind at_ y add sym base W hs).mono (fun _ _ h => (⟨h.1.trans (ret_sint hst rfl), h.2⟩ : _ = Ending.returned (.tuple #[.string ⟨#[]⟩, .int .i64 (applyErr s.size kind at_ add sym base)]) ∧ _)))
    clear hv hst
    go_enter Try.func8, Try.ntmps8
    go_wp2_with (first | (go_at_call 19; (with_reducible refine (c1.out _).mono ?_); rintro e w1 ⟨rfl, hb1⟩; obtain ⟨hc1, hf1⟩ := bcell hb1; have hz1 : w.heap.size < w1.heap.size := by have := hb1.size; (try simp at this); omega) | (go_at_call 23; (with_reducible refine (patchBegun_any _).mono ?_); rintro e w2 ⟨rfl, hb2⟩) | (go_at_call 16; (with_reducible refine (wordBegun_any _).mono ?_); rintro e w3 ⟨rfl, hb3⟩))
    all_goals (go_ret; exact ⟨by simp, HB.out.trans ((below_step hb1 (below_step hb2 hb3)).mono (by simp))⟩)

set_option maxRecDepth 100000 in
theorem patchThere_lifted (os : Os) (started : os.Started) (H : Type) (enc : TypeId × Value → H) :
    ReturnsInHanded {} Try.checked os 8 .any (Rows.patchThereSpec.pre6 enc Try.prog Try.f8 Rows.patchThereRow.domain false) (Rows.patchThereSpec.post enc Try.prog Try.f8 false true false false) := by
  refine returnsInHanded_of_change_sized (C := Try.checked) Try.own started (by kernel_rfl) Try.func8
    (ChangeSpec.witness6 (enc := enc) (C := Try.checked) false ⟨#[], #[.string ⟨#[]⟩, .agg #[.int .i64 0, .int .i64 0, .int .i64 0, .int .i64 0], .int .i64 0, .int .i64 0], []⟩ 8 (by kernel_rfl) (by kernel_rfl) (by kernel_rfl) (by kernel_rfl)) ?_
  intro W base args ds gs before hval0 hW hcnd hsz0 _
  have hval : ∀ (j : Nat) t v, Try.f8.params[j]? = some t → args[j]? = some v → Value.okWide Try.prog W .any base t v := hval0
  have hsz : (DataW.weightsEach Try.prog (Try.f8.params.toList ++ Rows.patchThereSpec.plain.varTypes Try.prog) (ds ++ gs)).all (· ≤ reachBytes) = true := hsz0
  have hW' := hW
  obtain ⟨p, q, hA0, hV, rfl, hfz, hnd⟩ := hW
  have hA : DataW.TrodAll enc Try.prog W 0 (fun _ => true) true Try.f8.params.toList args.toList ds p := hA0
  rw [Try.params8] at hA hval hsz
  obtain ⟨v0, vs0, d0, ds0, p0, q0, hargs, rfl, rfl, h0, r0⟩ := trodAll_cons hA
  obtain ⟨v1, vs1, d1, ds1, p1, q1, rfl, rfl, rfl, h1, r1⟩ := trodAll_cons r0
  obtain ⟨v2, vs2, d2, ds2, p2, q2, rfl, rfl, rfl, h2, r2⟩ := trodAll_cons r1
  obtain ⟨v3, vs3, d3, ds3, p3, q3, rfl, rfl, rfl, h3, r3⟩ := trodAll_cons r2
  obtain ⟨rfl, rfl, rfl⟩ := trodAll_nil r3
  obtain rfl : args = #[v0, v1, v2, v3] := by cases args; simp_all
  obtain ⟨rfl, rfl⟩ := trodVars_none hV
  obtain ⟨s, rfl, rfl, rfl, w0⟩ := open_string Try.underlying9 (hval 0 9 v0 rfl rfl) h0
  have z0 : s.size ≤ 140737488351232 := by have := sized_string hsz (j := 0) (t := 9) rfl rfl; simpa [reachBytes] using this
  obtain ⟨pk, pa, py, pd, rfl⟩ := open_Patch (hval 1 36 v1 rfl rfl) h1
  obtain ⟨sym, rfl, rfl, rfl, w2⟩ := open_int Try.underlying3 (hval 2 3 v2 rfl rfl) h2
  obtain ⟨base, rfl, rfl, rfl, w3⟩ := open_int Try.underlying3 (hval 3 3 v3 rfl rfl) h3
  refine (PatchThere_any s pk pa py pd sym base W z0).mono fun e W' ⟨he, hb⟩ => ?_
  subst he
  exact ⟨_, rfl, law_post Try.laidOut hW' rfl (by decide +kernel) rfl Try.underlying4 rfl rfl rfl hb⟩

theorem patchThere_holds : Rows.PatchThereSaid :=
  OpenClaim.holds_of_wide 8 Try.f8 rfl rfl rfl rfl rfl rfl rfl ⟨rfl, rfl, rfl, rfl, rfl⟩ rfl rfl rfl rfl rfl (by kernel_rfl) Try.func8 (by kernel_rfl)
    (of_decide_eq_true (by kernel_rfl)) (by unfold Func.isWrapper; first | (rw [if_pos (by decide +kernel)]; kernel_rfl) | (rw [if_neg (by decide +kernel)]; exact ⟨rfl, rfl⟩))
    (fun os started H enc _ => patchThere_lifted os started H enc)
#print axioms patchThere_holds


end Go.Proofs.Ytjlbcaiionmcnaa
