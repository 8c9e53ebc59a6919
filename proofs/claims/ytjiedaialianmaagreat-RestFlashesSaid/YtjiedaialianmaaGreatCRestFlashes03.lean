import Derived.Test.YtjiedaialianmaaGreatA06
import Derived.Test.YtjiedaialianmaaGreatKTiny
open Go
set_option maxRecDepth 100000
namespace Go.Proofs.YtjiedaialianmaaGreat
open Go.ChangeShapes Go.WideShapes Go.ChangeAt Go.RowKit Go.WideMaps Go.WideElems Go.Deep
theorem Tryz.bytesExp :Tryz.prog.bytesOf 159=24:=by kernel_rfl
theorem kernel_fit {H:Type} {enc:TypeId×Value->H} {w:World} {base:Nat} {spare:Nat->Bool} {held:Bool} {k:Krn} {d:DataW H} {p:List MemPlace}
  (h:DataW.Trod enc Tryz.prog w base spare held 24 k.v d p) (hF:Fits Tryz.prog 24 d):k.ex.length*24<=big:=by
 obtain⟨fuel,hf⟩:=h
 have hf':=SV Tryz.underlying24 (by kernel_rfl) rfl hf
 obtain⟨_,_,h2,f2⟩:=hf' 2 _ _ rfl rfl
 have hG:=f2 hF
 rcases Go.Deep.open_slice Tryz.underlying22 h2 with⟨e1,e2⟩|⟨a,len',cap',m,n',D,Pl,e1,_,hl,_,hm,e2,hi⟩
 ·simp only[List.cons.injEq,and_true]at e1
  injection e1 with _ h1 h2
  rw[h1]
  exact Nat.zero_le _
 ·simp only[List.cons.injEq,and_true]at e1
  injection e1 with _ h1 h2
  rw[h1]
  have e3:=congrArg Prod.fst e2
  simp only at e3
  rw[e3]at hG
  have h1:=(VR Tryz.underlying22 hG).1
  rw[Cq,Tryz.bytesExp]at h1
  simp only[List.length_map,List.length_range]at h1
  omega
end Go.Proofs.YtjiedaialianmaaGreat
