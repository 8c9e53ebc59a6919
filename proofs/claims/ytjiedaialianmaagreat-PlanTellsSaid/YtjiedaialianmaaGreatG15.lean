import Derived.Test.YtjiedaialianmaaGreatG13
section

namespace Go.Proofs.YtjiedaialianmaaGreat
open Go.RowKit Go.Lib

/-- what a later world still tells of a registry that came out of a call -/
def RgThere (W : World) (k : Krn) (A : Option Addr) (l : List Plc) : Prop := k.ok W ∧ PlsOk W A l
theorem RgThere.below {W W' : World} {k : Krn} {A : Option Addr} {l : List Plc} (h : RgThere W k A l) (hb : Below W.heap.size W W') : RgThere W' k A l := ⟨h.1.below hb, h.2.below hb⟩
theorem RgThere.other {W W' : World} {k : Krn} {A : Option Addr} {l : List Plc} {b : Nat} {t : TypeId} (h : RgThere W k A l) (hr : RgBlock W b t) (ho : Only b W W') : RgThere W' k A l := ⟨Krn.ok.other hr ho h.1, PlsOk.other hr ho h.2⟩
theorem blk' {W W' : World} {b : Nat} {o : Obj} (hb : Below W.heap.size W W') (h : W.heap[b]? = some o) : W'.heap[b]? = some o := (hb.block b (Array.getElem?_eq_some_iff.1 h).1).trans h

end Go.Proofs.YtjiedaialianmaaGreat
end

section

open Go
namespace Go.Proofs.YtjiedaialianmaaGreat

end Go.Proofs.YtjiedaialianmaaGreat
end
