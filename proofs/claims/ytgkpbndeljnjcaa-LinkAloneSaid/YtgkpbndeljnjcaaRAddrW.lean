import Derived.Test.YtgkpbndeljnjcaaFindW
import Derived.Test.YtgkpbndeljnjcaaAddrW
/- Addresses as the document has them (chapter D): PlaceOf, exportAt, AddressOf. -/
namespace Go.Proofs.Ytgkpbndeljnjcaa
open Go.RowKit

/-- where an export is, as the document tells it -/
def expAtR (l : List Exp) (nm : ByteArray) : Int := if (expAt l nm).2 = 0 then (expAt l nm).1 else -1
theorem expAtR_hit {l : List Exp} {nm : ByteArray} {j : Nat} (h : j < l.length) (e : idxOf (called nm) l = j) : expAtR l nm = l[j].at_ := by
  rcases find_cases (called nm) l with ⟨e1, _⟩ | ⟨n, hn, e1, e2⟩
  · omega
  · obtain rfl : n = j := by omega
    unfold expAtR; rw [expAt_some hn e2]; rfl
theorem expAtR_miss {l : List Exp} {nm : ByteArray} (e : idxOf (called nm) l = -1) : expAtR l nm = -1 := by
  rcases find_cases (called nm) l with ⟨_, e2⟩ | ⟨n, hn, e1, _⟩
  · unfold expAtR; rw [expAt_none e2]; rfl
  · omega

set_option maxHeartbeats 2000000 in
set_option maxRecDepth 100000 in
theorem PlaceOf_any (A : Option Addr) (c : Nat) (l : List Plc) (nm : ByteArray) (w : World) (h : Row Plc.cells 8 w A l) (hl : l.length ≤ big) :
    Calls Try.prog 13 #[.slice A l.length c, .string nm] w fun e w' => e = .returned (.int .i64 (idxOf (named nm) l)) ∧ Below w.heap.size w w' := by
  unfold big at hl
  have HP := Lib.hid h
  clear h
  obtain ⟨R, hR⟩ : ∃ R, R = idxOf (named nm) l := ⟨_, rfl⟩
  rw [← hR]
  have HR := Lib.hid hR
  clear hR
  go_enter Try.func13, Try.ntmps13
  go_wp2_with fail
  go_loopw [5] (fun i wr => ∃ j : Nat, j ≤ l.length ∧ i = .int .i64 j ∧ (∀ k (hk : k < l.length), k < j → named nm l[k] = false) ∧ Below w.heap.size w wr) (fun i _ => l.length - (intOf i).toNat)
  case atStart => exact ⟨0, by omega, rfl, by omega, Below.refl _ _⟩
  case round =>
    obtain ⟨j, hj, rfl, hN, hb⟩ := hrel
    have HN := Lib.hid hN
    have HB := Lib.hid hb
    clear hN
    by_cases hlt : j < l.length
    · have hlt' : (j : Int) < l.length := by omega
      obtain ⟨ad, rfl, hab, h0, h1, h2, h3, h4, h5, h6, h7⟩ := plc_at HP.out hb j hlt
      clear hb
      by_cases he : l[j].m.name = nm
      · have e1 := Lib.hid (idxOf_some hlt HN.out (show named nm l[j] = true by simp [named, he]))
        have he' := str_eq he
        have HEE := Lib.hid he
        clear he
        have hrr := Lib.hid (HR.out.trans e1.out)
        go_wp2_with fail
        go_ret
        exact ⟨ret_int hrr.out.symm, HB.out⟩
      · have he' := str_ne he
        have HEE := Lib.hid (show named nm l[j] = false by simp [named, he])
        clear he
        go_wp2_with fail
        go_roundw
        case rel => exact ⟨j + 1, by omega, by go_num, fun k hk hkj => by rcases Nat.lt_succ_iff_lt_or_eq.1 hkj with h | rfl; exact HN.out k hk h; exact HEE.out, HB.out⟩
        case measure => (simp [intOf]; try omega)
    · have e1 := Lib.hid (idxOf_none (q := named nm) (l := l) (fun k hk => HN.out k hk (by omega)))
      have hrr := Lib.hid (HR.out.trans e1.out)
      go_wp2_with fail
      go_ret
      exact ⟨ret_int hrr.out.symm, HB.out⟩


end Go.Proofs.Ytgkpbndeljnjcaa
