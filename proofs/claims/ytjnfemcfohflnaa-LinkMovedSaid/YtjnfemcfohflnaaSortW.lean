import Derived.Test.YtjnfemcfohflnaaShelf
import Derived.Test.YtjnfemcfohflnaaGraphTwice
import Derived.Test.YtjnfemcfohflnaaMem
import Derived.Shelf.Slices.In.SortNone
import Derived.Shelf.Slices.In.CompactS
import Derived.Sort.EveryDepth
import Derived.Sort.OwnSorted
import Derived.Sort.Grow
import Derived.Lib.OwnBridge
import Derived.OwnWalk
/- slices.Sort and slices.Compact at a row of texts of the call's own (chapter E), by the shelf's contracts. -/
namespace Go.Proofs.Ytjnfemcfohflnaa
open Go.RowKit Go.Shelf Go.Sort

theorem Sort_any {w : World} {base n : Nat} {e : TypeId} {v : Value} {ss : List (List UInt8)} (hown : w.ownsRow base e 1 v n (ss.map encStr)) (hl : n ≤ big) :
    Calls Try.prog 46 #[v] w fun x w' => x = .returned (.tuple #[]) ∧ w'.ownsRow base e 1 v n ((Gs.msort ss).map encStr) ∧ w.grownBy w' v.ownBlock := by
  unfold big at hl
  by_cases hv : v = .slice none 0 0
  · subst hv
    have h0 : n = 0 := by
      rcases hown.2 with ⟨_, h⟩ | ⟨g, cap, cur, h, _⟩
      · exact h
      · cases h
    subst h0
    have hs : ss = [] := by
      have := hown.1; simp at this; exact this
    subst hs
    refine (Try.slices_Sort_string_none none 0 w).mono ?_
    rintro x w' ⟨rfl, rfl⟩
    exact ⟨rfl, by simpa [Gs.msort] using hown, World.grownBy.refl _ _⟩
  · obtain ⟨g, cap, rfl, hbg, hgl, hncap, hcm, hlen, hH⟩ := Lib.holds_of_ownsRow hown hv
    subst hlen
    refine (Try.slices_Sort_string g 0 cap ss w hH hgl (by omega)).mono ?_
    rintro x w' ⟨rfl, nn, os, rfl⟩
    rcases hown.2 with ⟨h0, _⟩ | ⟨g', cap', cur, hv', hbase, hb, h1, h2, h3, h4⟩
    · cases h0
    cases hv'
    exact ⟨rfl, ownsRow_sorted (ts := Gs.msort ss) (Gs.msort_perm ss).length_eq hbase hb h1 h2 h3, grownBy_sorted _⟩

theorem grownBy_put {w : World} {g n : Nat} (d : Array (List UInt8)) : w.grownBy (putRow encStr (Sort.ahead w n) g 0 d) (some g) := by
  refine ⟨rfl, rfl, rfl, by simp [putRow, mapBlock, Sort.ahead], fun k hk hne => ?_⟩
  have : g ≠ k := fun e => hne (by rw [e])
  simp [putRow, mapBlock, Sort.ahead, Array.getElem?_modify, this]

theorem Compact_any {w : World} {base n : Nat} {e : TypeId} {v : Value} {ss : List (List UInt8)} (hown : w.ownsRow base e 1 v n (ss.map encStr)) :
    Calls Try.prog 33 #[v] w fun x w' => (∃ A c, x = .returned (.slice A (Lib.compact ss).length c)) ∧ w.grownBy w' v.ownBlock := by
  by_cases hv : v = .slice none 0 0
  · subst hv
    have h0 : n = 0 := by
      rcases hown.2 with ⟨_, h⟩ | ⟨g, cap, cur, h, _⟩
      · exact h
      · cases h
    subst h0
    have hs : ss = [] := by
      have := hown.1; simp at this; exact this
    subst hs
    refine (Try.slices_Compact_string_empty none 0 w).mono ?_
    rintro x w' ⟨rfl, rfl⟩
    exact ⟨⟨_, _, rfl⟩, World.grownBy.refl _ _⟩
  · obtain ⟨g, cap, rfl, hbg, hgl, hncap, hcm, hlen, hH⟩ := Lib.holds_of_ownsRow hown hv
    subst hlen
    unfold maxLen at hcm
    refine (Try.slices_Compact_string g 0 cap ss w hH (by omega) (by omega)).mono ?_
    rintro x w' ⟨rfl, q, rfl⟩
    exact ⟨⟨_, _, rfl⟩, grownBy_put _⟩

end Go.Proofs.Ytjnfemcfohflnaa
