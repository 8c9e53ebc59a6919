import Derived.Test.YtjnfemcfohflnaaFindW
import Derived.Test.YtjnfemcfohflnaaAddrW
/- Addresses as the document has them (chapter D): PlaceOf, exportAt, AddressOf. -/
namespace Go.Proofs.Ytjnfemcfohflnaa
open Go.RowKit

/-- where an export is, as the document tells it -/
def expAtR (l : List Exp) (nm : ByteArray) : Int := if (expAt l nm).2 = 0 then (expAt l nm).1 else -1
theorem expAtR_hit {l : List Exp} {nm : ByteArray} {j : Nat} (h : j < l.length) (e : idxOf (called nm) l = j) : expAtR l nm = l[j].at_ := by
  rcases find_cases (called nm) l with ⟨e1, _⟩ | ⟨n, hn, e1, e2⟩
  · omega
  · obtain rfl : n = j := by omega
    unfold expAtR; rw [expAt_some hn e2]; rfl
theorem expAtR_miss {l : List Exp} {nm : ByteArray} (e : idxOf (called nm) l = -1) : expAtR l nm = -1 := by
  rcases find_cases (called nm) l with ⟨_, e2⟩ | ⟨n, hn, e1, _⟩
  · unfold expAtR; rw [expAt_none e2]; rfl
  · omega

end Go.Proofs.Ytjnfemcfohflnaa
