import Derived.Test.YtjiedaialianmaaGreatBLaPaPlReRu01
import Derived.Test.YtjiedaialianmaaGreatKTiny
set_option maxRecDepth 100000
namespace Go.Proofs.YtjiedaialianmaaGreat
open Go.ChangeShapes Go.WideShapes Go.ChangeAt Go.RowKit Go.Deep
section
variable {H:Type} {enc:TypeId×Value->H} {w:World} {base:Nat} {spare:Nat->Bool} {held:Bool} {n:Nat} {c:Value} {cs:List Value} {y:DataW H×List MemPlace}
theorem NP (hl:cs.length=8) (h:DataW.trod enc Tryz.prog w base spare held n 83 cs=some y) (hF:Fits Tryz.prog 83 y.1):∃x:Plc,cs=x.cells/\x.m.ok w:=by
 obtain⟨xs,n',_,rfl,_,hlx,hg⟩:=DataW.trod_struct Tryz.underlying83 h
 have g0:DataW.trod enc Tryz.prog w base spare held n' 70 ((cs.drop 0).take (Tryz.prog.cellsOf 70))=xs[0]?:=hg 0 _ rfl
 have g1:DataW.trod enc Tryz.prog w base spare held n' 3 ((cs.drop 7).take (Tryz.prog.cellsOf 3))=xs[1]?:=hg 1 _ rfl
 rw[Tryz.yZ]at g0
 rw[Tryz.Ff]at g1
 obtain⟨y0,y1,rfl⟩:∃y0 y1,xs=[y0,y1]:=by
  match xs,hlx with| [a,b],_=>exact⟨a,b,rfl⟩
 obtain⟨m,hm,hok⟩:=GZ (by simp[hl]) g0 (oW Tryz.underlying83 hF (j:=0) rfl rfl)
 rw[lL cs 7 (by omega)]at g1
 obtain⟨z,hz⟩:=SI g1
 refine⟨⟨m,z⟩,?_,hok⟩
 rw[List.drop_zero]at hm
 have:cs=cs.take 7++cs.drop 7:=(List.take_append_drop 7 cs).symm
 rw[this,hm,List.drop_eq_getElem_cons (by omega),hz,List.drop_eq_nil_of_le (by omega)]
 rfl
theorem MI (h:DataW.trod enc Tryz.prog w base spare held n 37 [c]=some y) (hF:Fits Tryz.prog 37 y.1):∃(A:Option Addr) (l:List Plc) (cap:Nat),c=.slice A l.length cap/\aU w A l:=by
 obtain⟨A,l,cap,e,h1,h2,h3⟩:=open_row Plc.cells 8 (fun _=>rfl) (by omega) (fun x=>x.m.ok w) Tryz.underlying37 (by decide+kernel) (by kernel_rfl) (fun _ _ _ hl ht hf=>NP hl ht hf) h hF
 exact⟨A,l,cap,e,h3,h1,h2⟩
end
section
variable {H:Type} {enc:TypeId×Value->H} {w:World} {base:Nat} {spare:Nat->Bool} {held:Bool} {r:Reach} {b0:Nat} {v:Value} {d:DataW H} {p:List MemPlace}
theorem Tryz.CX :Tryz.prog.cellsOf 39=4:=by kernel_rfl
theorem Tryz.FL :Tryz.prog.cellsOf 37=1:=by kernel_rfl
theorem C9 (hv:Value.okWide Tryz.prog w r b0 39 v) (h:DataW.Trod enc Tryz.prog w base spare held 39 v d p) (hF:Fits Tryz.prog 39 d):
  ∃(k:Krn) (A:Option Addr) (l:List Plc) (cap:Nat),v=.agg #[.int .i64 k.major,.int .i64 k.minor,.slice k.eA k.ex.length k.eC,.slice A l.length cap]/\k.ok w/\aU w A l:=by
 obtain⟨cs,rfl,hsz⟩:=okWide_struct Tryz.underlying39 hv
 obtain⟨fuel,hf⟩:=h
 obtain⟨l⟩:=cs
 obtain⟨a,b,c,e,rfl⟩:=O5 (l:=l) (by have:=hsz.trans Tryz.CX;simpa using this)
 obtain⟨xs,n',_,hd,_,hlx,hg⟩:=DataW.trod_struct Tryz.underlying39 hf
 have g0:DataW.trod enc Tryz.prog w base spare held n' 24 (([a,b,c,e].drop 0).take (Tryz.prog.cellsOf 24))=xs[0]?:=hg 0 _ rfl
 have g1:DataW.trod enc Tryz.prog w base spare held n' 37 (([a,b,c,e].drop 3).take (Tryz.prog.cellsOf 37))=xs[1]?:=hg 1 _ rfl
 rw[Tryz.yK]at g0
 rw[Tryz.FL]at g1
 obtain⟨y0,y1,rfl⟩:∃y0 y1,xs=[y0,y1]:=by
  match xs,hlx with| [a,b],_=>exact⟨a,b,rfl⟩
 have hd':d=.agg [y0.1,y1.1]:=congrArg Prod.fst hd
 rw[hd']at hF
 have fK:=oW Tryz.underlying39 hF (j:=0) rfl rfl
 have fL:=oW Tryz.underlying39 hF (j:=1) rfl rfl
 have hf':=SV Tryz.underlying24 (by kernel_rfl) rfl g0
 obtain⟨_,_,h0,f0⟩:=hf' 0 _ _ rfl rfl
 obtain⟨_,_,h1,f1⟩:=hf' 1 _ _ rfl rfl
 obtain⟨_,_,h2,f2⟩:=hf' 2 _ _ rfl rfl
 obtain⟨z,rfl⟩:=SI h0
 obtain⟨u,rfl⟩:=SI h1
 obtain⟨eA,ex,eC,rfl,he⟩:=Ud h2 (f2 fK)
 obtain⟨A,l,cap,e4,hl⟩:=MI g1 fL
 subst e4
 exact⟨⟨z,u,ex,eA,eC⟩,A,l,cap,rfl,⟨he⟩,hl⟩
end
end Go.Proofs.YtjiedaialianmaaGreat
