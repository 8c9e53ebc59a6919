import Derived.Test.YtjiedaialianmaaGreatA21
import Derived.Test.YtjiedaialianmaaGreatKTiny
namespace Go.Proofs.YtjiedaialianmaaGreat
section
open Go.RowKit Go.Lib
section
variable {m m':Mod} {w w':World} {base base':Nat}
theorem gI.Jz (h:gI m m'):gI m' m:=by
 obtain⟨h1,h2,h3,h4,h5,h6,h7⟩:=h
 exact⟨h1.symm,h2.symm,h3.symm,h4.symm,h5.symm,h6.symm,h7.symm⟩
end
end
section
open Go
set_option maxRecDepth 100000
open Go.ChangeShapes Go.WideShapes Go.ChangeAt Go.RowKit Go.Deep
theorem Tryz.Nb :Tryz.prog.cellsOf 102=9:=by kernel_rfl
section
variable {H:Type} {enc:TypeId×Value->H} {w:World} {base:Nat} {spare:Nat->Bool} {held:Bool} {r:Reach} {b0:Nat} {v:Value} {d:DataW H} {p:List MemPlace}
theorem Nl (hv:Value.okWide Tryz.prog w r b0 102 v) (h:DataW.Trod enc Tryz.prog w base spare held 102 v d p) (hF:Fits Tryz.prog 102 d):∃x:Cm,v=x.v/\x.m.ok w/\x.nm.size<=big:=by
 obtain⟨cs,rfl,hsz⟩:=okWide_struct Tryz.underlying102 hv
 obtain⟨fuel,hf⟩:=h
 obtain⟨m,e,hok⟩:=KO (cs:=cs.toList) (by rw[Array.length_toList,hsz,Tryz.Nb]) hf hF
 obtain⟨l⟩:=cs
 exact⟨m,by simp only at e;rw[e];rfl,hok⟩
end
end
section
open Go
theorem MH (l:List UInt8):(sof l).size=l.length:=by show l.toArray.size=_;simp
end
end Go.Proofs.YtjiedaialianmaaGreat
