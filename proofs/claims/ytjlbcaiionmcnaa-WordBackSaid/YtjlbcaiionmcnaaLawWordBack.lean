import Derived.Test.YtjlbcaiionmcnaaWord2W
import Derived.Test.YtjlbcaiionmcnaaFrame
import Derived.Test.YtjlbcaiionmcnaaWordBegun
/- WordBack: what is put is there and nothing else is other; what is there, put again, changes nothing. No condition. -/
namespace Go.Proofs.Ytjlbcaiionmcnaa
open Go.ChangeShapes Go.WideShapes Go.ChangeAt Go.RowKit Go.WideMaps Go.WideElems
open Go.ChangeMaps (setBlock shut_map_nil open_string shut_string keptBut_setBlock frozen?_setBlock heap_setBlock_same)

theorem putStr_size (s : ByteArray) (a k : Nat) (n : Int) (h : a + k ≤ s.size) : (putStr s a k n).size = s.size := by
  have e : (putStr s a k n).size = (s.data.toList.take a ++ digits n k ++ s.data.toList.drop (a + k)).length := by unfold putStr; rfl
  have hl : s.data.toList.length = s.size := rfl
  rw [e, List.length_append, List.length_append, digits_length, List.length_take, List.length_drop]; omega

theorem get_put (s : ByteArray) (a k : Nat) (n : Int) (h : a + k ≤ s.size) : ((putStr s a k n).data.toList.drop a).take k = digits n k := by
  have hl : s.data.toList.length = s.size := rfl
  simp only [putStr, List.append_assoc]
  rw [List.drop_append, List.drop_of_length_le (by simp; omega), List.length_take, Nat.min_eq_left (by omega), Nat.sub_self, List.drop_zero, List.nil_append, List.take_append, digits_length, Nat.sub_self, List.take_zero, List.append_nil, List.take_of_length_le (by rw [digits_length]; omega)]

theorem put_put (s : ByteArray) (a k : Nat) (n m : Int) (h : a + k ≤ s.size) : putStr (putStr s a k n) a k m = putStr s a k m := by
  have hl : s.data.toList.length = s.size := rfl
  refine ba_eq ?_
  simp only [putStr, List.append_assoc]
  congr 1
  · rw [List.take_append, List.length_take, Nat.min_eq_left (by omega), Nat.sub_self, List.take_zero, List.append_nil, List.take_of_length_le (by simp; omega)]
  · congr 1
    rw [List.drop_append, List.drop_of_length_le (by simp; omega), List.length_take, Nat.min_eq_left (by omega), List.nil_append, List.drop_append, List.drop_of_length_le (by rw [digits_length]; omega), digits_length, List.nil_append, List.drop_drop]
    congr 1; omega

theorem put_get (s : ByteArray) (a k : Nat) (h : a + k ≤ s.size) : putStr s a k (num ((s.data.toList.drop a).take k)) = s := by
  have hl : s.data.toList.length = s.size := rfl
  have hk : ((s.data.toList.drop a).take k).length = k := by simp; omega
  refine ba_eq ?_
  have e := digits_num ((s.data.toList.drop a).take k)
  rw [hk] at e
  simp only [putStr, e, List.append_assoc]
  rw [show s.data.toList.drop (a + k) = (s.data.toList.drop a).drop k from by rw [List.drop_drop], List.take_append_drop, List.take_append_drop]

theorem put_mod (s : ByteArray) (a k : Nat) (n m : Int) (h : digits n k = digits m k) : putStr s a k n = putStr s a k m := by simp [putStr, h]

/-- a signed number of 8*k bits has the number's digits -/
theorem signed_digits (x : Int) (k : Nat) (h1 : 1 ≤ k) (h : k ≤ 4) (h0 : 0 ≤ x) (hx : x < p256 k) : digits (signedNum x (8 * k)) k = digits x k ∧ signedErr x (8 * k) = 0 := by
  have e : (2 : Int) ^ (8 * (k : Int)).toNat = p256 k := by rw [p256_pow, show (8 * (k : Int)).toNat = 8 * k from by omega]
  have hn : signedNum x (8 * k) = if p256 k ≤ 2 * x then x - p256 k else x := by
    unfold signedNum; rw [e, if_neg (by omega), if_neg (by omega)]
  refine ⟨?_, by unfold signedErr; rw [e, if_neg (by omega), if_neg (by omega)]⟩
  rw [hn]
  split
  · rw [← digits_mod (x - p256 k) k, ← digits_mod x k]
    congr 1
    have := Int.sub_emod_right x (p256 k)
    exact this
  · rfl

theorem put_elsewhere (s : ByteArray) (a k : Nat) (n : Int) (h : a + k ≤ s.size) (i : Nat) (hi : i < s.size) (hi' : i < (putStr s a k n).size) (ho : i < a ∨ a + k ≤ i) : s[i] = (putStr s a k n)[i] := by
  have hl : s.data.toList.length = s.size := rfl
  have e1 : s[i] = s.data.toList[i]'(by omega) := rfl
  have e2 : (putStr s a k n)[i] = (putStr s a k n).data.toList[i]'(by have : (putStr s a k n).data.toList.length = (putStr s a k n).size := rfl; omega) := rfl
  rw [e1, e2]
  simp only [putStr, List.append_assoc]
  rcases ho with ho | ho
  · rw [List.getElem_append_left (by simp; omega), List.getElem_take]
  · rw [List.getElem_append_right (by simp; omega), List.getElem_append_right (by simp [digits_length]; omega)]
    simp only [List.getElem_drop, digits_length, List.length_take]
    congr 1; omega

set_option maxRecDepth 100000 in
set_option maxHeartbeats 1000000 in
theorem WordBack_any (s : ByteArray) (at_ b n : Int) (w : World) (hs : s.size ≤ 140737488351232) :
    Calls Try.prog 4 #[.string s, .int .i64 at_, .int .i64 b, .int .i64 n] w fun e w' => e = .returned (.bool true) ∧ Below w.heap.size w w' := by
  by_cases hok : checkWord s.size at_ b = 0
  · obtain ⟨h1, h2, h3, h4, h5⟩ := checkWord_ok hok
    obtain ⟨a, rfl⟩ := Int.eq_ofNat_of_zero_le h3
    obtain ⟨k, rfl⟩ := Int.eq_ofNat_of_zero_le (show 0 ≤ b by omega)
    have hak : a + k ≤ s.size := by omega
    obtain ⟨t, ht⟩ : ∃ t, t = putStr s a k n := ⟨_, rfl⟩
    have htz : t.size = s.size := by rw [ht]; exact putStr_size s a k n hak
    have hokt : checkWord t.size a k = 0 := by rw [htz]; exact hok
    have hts : t.size ≤ 140737488351232 := by omega
    obtain ⟨x, hx⟩ : ∃ x, x = num ((t.data.toList.drop a).take k) := ⟨_, rfl⟩
    have hxe : x = n % p256 k := by rw [hx, ht, get_put _ _ _ _ hak, num_digits]
    have hpk := p256_pos k
    have hx0 : 0 ≤ x := by rw [hxe]; exact Int.emod_nonneg _ (by omega)
    have hx1 : x < p256 k := by rw [hxe]; exact Int.emod_lt_of_pos _ (by omega)
    obtain ⟨y, hy⟩ : ∃ y, y = num ((s.data.toList.drop a).take k) := ⟨_, rfl⟩
    have hsd := signed_digits x k (by omega) (by omega) hx0 hx1
    have c1 := Lib.hid (fun W => (Put_ok s a k n W hs hok).mono (fun _ _ h => (⟨h.1.trans (ret_sint ht.symm rfl), h.2⟩ : _ = Ending.returned (.tuple #[.string t, .int .i64 0]) ∧ _)))
    have c2 := Lib.hid (fun W => (Get_ok t a k W hts hokt).mono (fun _ _ h => (⟨h.1.trans (ret_ints hx.symm rfl), h.2⟩ : _ = Ending.returned (.tuple #[.int .i64 x, .int .i64 0]) ∧ _)))
    have c3 := Lib.hid (fun W => (Get_ok s a k W hs hok).mono (fun _ _ h => (⟨h.1.trans (ret_ints hy.symm rfl), h.2⟩ : _ = Ending.returned (.tuple #[.int .i64 y, .int .i64 0]) ∧ _)))
    have c4 := Lib.hid (fun W => (Put_ok t a k y W hts hokt).mono (fun _ _ h => (⟨h.1.trans (ret_sint (by rw [ht, put_put _ _ _ _ _ hak, hy, put_get _ _ _ hak]) rfl), h.2⟩ : _ = Ending.returned (.tuple #[.string s, .int .i64 0]) ∧ _)))
    obtain ⟨z, hz⟩ : ∃ z, z = signedNum x (8 * k) := ⟨_, rfl⟩
    have c5 := Lib.hid (fun W => (Signed_any x (8 * k) W).mono (fun _ _ h => (⟨h.1.trans (ret_ints hz.symm hsd.2), h.2⟩ : _ = Ending.returned (.tuple #[.int .i64 z, .int .i64 0]) ∧ _)))
    have c6 := Lib.hid (fun W => (Put_ok s a k z W hs hok).mono (fun _ _ h => (⟨h.1.trans (ret_sint (by rw [ht]; refine put_mod _ _ _ _ _ ?_; rw [hz, hsd.1, hxe, digits_mod]) rfl), h.2⟩ : _ = Ending.returned (.tuple #[.string t, .int .i64 0]) ∧ _)))
    have hel := Lib.hid (fun i hi hi' ho => put_elsewhere s a k n hak i hi hi' ho)
    rw [← ht] at hel
    have hx2 : (k : Int) < 4 → x < 16777216 := fun h4 => by
      have : ∀ q : Fin 4, p256 q.val ≤ 16777216 := by decide
      have := this ⟨k, by omega⟩
      simp at this; omega
    have hz1 : t.size ≤ s.size := by omega
    have hz2 : s.size ≤ t.size := by omega
    clear hok hokt ht hxe hx1 hpk hx hsd hz hy htz
    go_enter Try.func4, Try.ntmps4
    go_wp2_with fail
    refine (c1.out _).mono ?_; rintro e w1 ⟨rfl, hb1⟩
    go_wp2_with fail
    refine (wordBegun_any _).mono ?_; rintro e w2 ⟨rfl, hb2⟩
    go_wp2_with fail
    refine (c2.out _).mono ?_; rintro e w' ⟨rfl, rfl⟩
    go_wp2_with fail
    all_goals
      go_loopw [12] (fun i wr => ∃ j : Nat, j ≤ s.size ∧ i = .int .i64 j ∧ Below w2.heap.size w2 wr) (fun i _ => s.size - (intOf i).toNat)
      case atStart => exact ⟨0, by omega, rfl, Below.refl _ _⟩
      case round =>
        obtain ⟨j, hj, rfl, hbr⟩ := hrel
        by_cases hlt : j < s.size
        · have hjt : j < t.size := by omega
          have hjs' : (j : Int) < s.size := by omega
          have hjt' : (j : Int) < t.size := by omega
          have q1 : IntKind.i64.wrap ((a : Int) + k) = (a : Int) + k := IntWalk.i64_in _ (by omega)
          by_cases ha : j < a
          · have hE := hel.out j hlt hjt (.inl ha)
            have ha' : (j : Int) < a := by omega
            go_wp2_with fail
            go_quiet (fail)
            go_wp2_with fail
            go_roundw
            case rel => exact ⟨j + 1, by omega, by go_num, below_drewN hbr _⟩
            case measure => (simp [intOf]; try omega)
          · have ha' : decide ((j : Int) < a) = false := by simp; omega
            by_cases hk' : a + k ≤ j
            · have hE := hel.out j hlt hjt (.inr hk')
              have hk2 : (a : Int) + k ≤ j := by omega
              go_wp2_with fail
              go_quiet (fail)
              go_wp2_with fail
              go_roundw
              case rel => exact ⟨j + 1, by omega, by go_num, below_drewN hbr _⟩
              case measure => (simp [intOf]; try omega)
            · have hk2 : decide ((a : Int) + k ≤ j) = false := by simp; omega
              go_wp2_with fail
              go_quiet (fail)
              go_wp2_with fail
              go_roundw
              case rel => exact ⟨j + 1, by omega, by go_num, below_drewN hbr _⟩
              case measure => (simp [intOf]; try omega)
        · go_wp2_with fail
          refine (c3.out _).mono ?_; rintro e w' ⟨rfl, rfl⟩
          go_wp2_with fail
          refine (c4.out _).mono ?_; rintro e w3 ⟨rfl, hb3⟩
          go_wp2_with fail
          refine (c5.out _).mono ?_; rintro e w' ⟨rfl, rfl⟩
          go_wp2_with fail
          refine (c6.out _).mono ?_; rintro e w4 ⟨rfl, hb4⟩
          go_wp2_with fail
          go_ret
          exact ⟨by simp, below_step hb1 (below_step hb2 (below_step hbr (below_step hb3 hb4)))⟩
  · have c1 := Lib.hid (fun W => Put_no s at_ b n W hs hok)
    have hok2 : (checkWord s.size at_ b != 0) = true := by simp [hok]
    go_enter Try.func4, Try.ntmps4
    go_wp2_with (first | (go_at_call 10; with_reducible refine (c1.out _).mono ?_; rintro e w' ⟨rfl, rfl⟩) | (go_at_call 16; with_reducible refine (wordBegun_any _).mono ?_; rintro e w1 ⟨rfl, hb1⟩))
    all_goals (go_ret; exact ⟨by simp, hb1⟩)

set_option maxRecDepth 100000 in
theorem wordBack_lifted (os : Os) (started : os.Started) (H : Type) (enc : TypeId × Value → H) :
    ReturnsInHanded {} Try.checked os 4 .any (Rows.wordBackSpec.pre6 enc Try.prog Try.f4 Rows.wordBackRow.domain false) (Rows.wordBackSpec.post enc Try.prog Try.f4 false true false false) := by
  refine returnsInHanded_of_change_sized (C := Try.checked) Try.own started (by kernel_rfl) Try.func4
    (ChangeSpec.witness6 (enc := enc) (C := Try.checked) false ⟨#[], #[.string ⟨#[]⟩, .int .i64 0, .int .i64 0, .int .i64 0], []⟩ 8 (by kernel_rfl) (by kernel_rfl) (by kernel_rfl) (by kernel_rfl)) ?_
  intro W base args ds gs before hval0 hW hcnd hsz0 _
  have hval : ∀ (j : Nat) t v, Try.f4.params[j]? = some t → args[j]? = some v → Value.okWide Try.prog W .any base t v := hval0
  have hsz : (DataW.weightsEach Try.prog (Try.f4.params.toList ++ Rows.wordBackSpec.plain.varTypes Try.prog) (ds ++ gs)).all (· ≤ reachBytes) = true := hsz0
  have hW' := hW
  obtain ⟨p, q, hA0, hV, rfl, hfz, hnd⟩ := hW
  have hA : DataW.TrodAll enc Try.prog W 0 (fun _ => true) true Try.f4.params.toList args.toList ds p := hA0
  rw [Try.params4] at hA hval hsz
  obtain ⟨v0, vs0, d0, ds0, p0, q0, hargs, rfl, rfl, h0, r0⟩ := trodAll_cons hA
  obtain ⟨v1, vs1, d1, ds1, p1, q1, rfl, rfl, rfl, h1, r1⟩ := trodAll_cons r0
  obtain ⟨v2, vs2, d2, ds2, p2, q2, rfl, rfl, rfl, h2, r2⟩ := trodAll_cons r1
  obtain ⟨v3, vs3, d3, ds3, p3, q3, rfl, rfl, rfl, h3, r3⟩ := trodAll_cons r2
  obtain ⟨rfl, rfl, rfl⟩ := trodAll_nil r3
  obtain rfl : args = #[v0, v1, v2, v3] := by cases args; simp_all
  obtain ⟨rfl, rfl⟩ := trodVars_none hV
  obtain ⟨s, rfl, rfl, rfl, w0⟩ := open_string Try.underlying9 (hval 0 9 v0 rfl rfl) h0
  have z0 : s.size ≤ 140737488351232 := by have := sized_string hsz (j := 0) (t := 9) rfl rfl; simpa [reachBytes] using this
  obtain ⟨at_, rfl, rfl, rfl, w1⟩ := open_int Try.underlying3 (hval 1 3 v1 rfl rfl) h1
  obtain ⟨b, rfl, rfl, rfl, w2⟩ := open_int Try.underlying3 (hval 2 3 v2 rfl rfl) h2
  obtain ⟨n, rfl, rfl, rfl, w3⟩ := open_int Try.underlying3 (hval 3 3 v3 rfl rfl) h3
  refine (WordBack_any s at_ b n W z0).mono fun e W' ⟨he, hb⟩ => ?_
  subst he
  exact ⟨_, rfl, law_post Try.laidOut hW' rfl (by decide +kernel) rfl Try.underlying4 rfl rfl rfl hb⟩

theorem wordBack_holds : Rows.WordBackSaid :=
  OpenClaim.holds_of_wide 4 Try.f4 rfl rfl rfl rfl rfl rfl rfl ⟨rfl, rfl, rfl, rfl, rfl⟩ rfl rfl rfl rfl rfl (by kernel_rfl) Try.func4 (by kernel_rfl)
    (of_decide_eq_true (by kernel_rfl)) (by unfold Func.isWrapper; first | (rw [if_pos (by decide +kernel)]; kernel_rfl) | (rw [if_neg (by decide +kernel)]; exact ⟨rfl, rfl⟩))
    (fun os started H enc _ => wordBack_lifted os started H enc)
#print axioms wordBack_holds


end Go.Proofs.Ytjlbcaiionmcnaa
