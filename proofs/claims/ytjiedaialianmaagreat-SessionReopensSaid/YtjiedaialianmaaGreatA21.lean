import Derived.Test.YtjiedaialianmaaGreatA20
set_option maxRecDepth 100000
set_option maxHeartbeats 8000000
namespace Go.Proofs.YtjiedaialianmaaGreat
section
open Go
open Go.ChangeShapes Go.WideShapes Go.ChangeAt Go.RowKit Go.Deep
def Cm.cells (c:Cm):List Value:=iv c.kind::(c.m.cells++[.string c.nm])
structure nE (w:World)(A:Option Addr)(l:List Cm):Prop where
 row:Row Cm.cells 9 w A l
 len:l.length<=big
 each:∀x∈l,x.m.ok w/\x.nm.size<=big
theorem nE.below {w w':World}{A:Option Addr}{l:List Cm}(h:nE w A l)(hb:Below w.heap.size w w'):nE w' A l:=⟨h.row.below hb,h.len,fun x hx=>⟨(h.each x hx).1.below hb,(h.each x hx).2⟩⟩
section
variable {H:Type} {enc:TypeId×Value->H} {w:World} {base:Nat} {spare:Nat->Bool} {held:Bool} {n:Nat} {c:Value} {cs:List Value} {y:DataW H×List MemPlace}
theorem KO (hl:cs.length=9)(h:DataW.trod enc Tryz.prog w base spare held n 102 cs=some y)(hF:Fits Tryz.prog 102 y.1):∃x:Cm,cs=x.cells/\x.m.ok w/\x.nm.size<=big:=by
 obtain⟨xs,n',_,rfl,_,hlx,hg⟩:=DataW.trod_struct Tryz.underlying102 h
 have g0:DataW.trod enc Tryz.prog w base spare held n' 3 ((cs.drop 0).take (Tryz.prog.cellsOf 3))=xs[0]?:=hg 0 _ rfl
 have g1:DataW.trod enc Tryz.prog w base spare held n' 70 ((cs.drop 1).take (Tryz.prog.cellsOf 70))=xs[1]?:=hg 1 _ rfl
 have g2:DataW.trod enc Tryz.prog w base spare held n' 9 ((cs.drop 8).take 1)=xs[2]?:=hg 2 _ rfl
 rw[Tryz.Ff]at g0
 rw[Tryz.yZ]at g1
 obtain⟨y0,y1,y2,rfl⟩:∃y0 y1 y2,xs=[y0,y1,y2]:=by
  match xs,hlx with| [a,b,c],_=>exact⟨a,b,c,rfl⟩
 obtain⟨m,hm,hok⟩:=GZ (by simp[hl]) g1 (oW Tryz.underlying102 hF (j:=1) rfl rfl)
 rw[lL cs 0 (by omega)]at g0
 rw[lL cs 8 (by omega)]at g2
 obtain⟨z,hz⟩:=SI g0
 obtain⟨s,hs,hsz⟩:=nD g2
 refine⟨⟨z,m,s⟩,?_,hok,hsz (oW Tryz.underlying102 hF (j:=2) rfl rfl)⟩
 have e0:cs=cs[0]::cs.drop 1:=by rw[<-GY4 (by omega),List.drop_zero]
 have e1:cs.drop 1=(cs.drop 1).take 7++cs.drop 8:=by
  conv=>lhs;rw[<-List.take_append_drop 7 (cs.drop 1)]
  rw[List.drop_drop]
 rw[e0,e1,hm,hz,GY4 (i:=8) (by omega),hs,List.drop_eq_nil_of_le (by omega)]
 rfl
theorem NY (h:DataW.trod enc Tryz.prog w base spare held n 25 [c]=some y)(hF:Fits Tryz.prog 25 y.1):∃(A:Option Addr)(l:List Cm)(cap:Nat),c=.slice A l.length cap/\nE w A l:=by
 obtain⟨A,l,cap,e,h1,h2,h3⟩:=open_row Cm.cells 9 (fun _=>rfl) (by omega) (fun x=>x.m.ok w/\x.nm.size<=big) Tryz.underlying25 (by decide+kernel) (by kernel_rfl) (fun _ _ _ hl ht hf=>KO hl ht hf) h hF
 exact⟨A,l,cap,e,h3,h1,h2⟩
end
section
variable {H:Type} {enc:TypeId×Value->H} {w:World} {base:Nat} {spare:Nat->Bool} {held:Bool} {r:Reach} {b0:Nat} {v:Value} {d:DataW H} {p:List MemPlace}
theorem UD (hv:Value.okWide Tryz.prog w r b0 25 v)(h:DataW.Trod enc Tryz.prog w base spare held 25 v d p)(hF:Fits Tryz.prog 25 d):
  ∃(A:Option Addr)(l:List Cm)(cap:Nat),v=.slice A l.length cap/\nE w A l:=by
 obtain⟨a,len,cap,rfl⟩:=okWide_slice Tryz.underlying25 hv
 obtain⟨fuel,hf⟩:=h
 exact NY (c:=.slice a len cap) hf hF
end
end
section
open Go
open Go.RowKit Go.Lib
theorem Cj {x:Imp}(h:dP x=0):isName x.mod=true/\isName x.name=true:=by
 unfold dP at h
 by_cases e:isName x.mod=false\/isName x.name=false
 ·rw[if_pos e]at h;omega
 ·cases a:isName x.mod<;>cases b:isName x.name<;>simp_all
theorem LM {W:World}{base:Nat}{m:Mod}(ho:m.own W base)(h:aL m=0):m.ok W:=by
 obtain⟨n1,_,t1,_,_,e6,i6,p12,ex,im,_⟩:=aY h
 have hb:1000<=big:=by unfold big;omega
 exact⟨⟨Reads.of_own ho.ex,by omega,fun x hx=>GY1 (RZ (lJ ex x hx).1) (by omega)⟩,
  ⟨Reads.of_own ho.im,by omega,fun x hx=>⟨GY1 (RZ (Cj (kX im x hx)).1) (by omega),GY1 (RZ (Cj (kX im x hx)).2) (by omega)⟩⟩,
  ⟨Reads.of_own ho.pa,by omega⟩,GY1 (RZ n1) (by omega),by omega⟩
theorem jS.right {W:World}{base:Nat}{k:Krn}{A:Option Addr}{l:List Plc}{c:Nat}(h:jS W base k A l c)(hr:aZ k l=0):k.ok W/\aU W A l:=by
 obtain⟨f1,_,f3,f4⟩:=oL hr
 have hk:=(dM (Sz hr).1).1
 have hb:1000000<=big:=by unfold big;omega
 exact⟨⟨⟨Reads.of_own h.ex,by omega,fun x hx=>GY1 (RZ (Ee hk x hx).1) (by omega)⟩⟩,
  ⟨Reads.of_own h.mods.row,by omega,fun x hx=>LM (h.mods.each x hx) (f1 x hx)⟩⟩
structure jR (W:World)(base bp:Nat)(k:Krn)(A:Option Addr)(l:List Plc)(c:Nat):Prop where
 heap:W.heap[bp]? =some (.cells #[.int .i64 k.major,.int .i64 k.minor,.slice k.eA k.ex.length k.eC,.slice A l.length c] 126 (0,0))
 own:jS W base k A l c
 low:base<=bp
theorem jR.lt {W:World}{base bp:Nat}{k:Krn}{A:Option Addr}{l:List Plc}{c:Nat}(h:jR W base bp k A l c):bp<W.heap.size:=(ZL h.heap)
theorem jR.below {W W':World}{base bp:Nat}{k:Krn}{A:Option Addr}{l:List Plc}{c:Nat}(h:jR W base bp k A l c)(hb:Below W.heap.size W W'):jR W' base bp k A l c:=
 ⟨(hb.block bp h.lt).trans h.heap,h.own.below hb,h.low⟩
def Did (w:World)(base bp:Nat)(k:Krn)(E:Int)(L:List Plc)(e:Ending)(w':World):Prop:=
 e=.returned (.int .i64 E)/\(∃k' A' l' c',jR w' base bp k' A' l' c'/\k'.bare=k.bare/\aD l'=aD L)/\Only bp w w'
theorem Only.of_below {B:Nat}{w w':World}(h:Below w.heap.size w w'):Only B w w':=⟨h.os,h.tape,h.output,h.size,fun k hk _=>h.block k hk⟩
end
section
open Go
open Gs (Tx)
def Si (m:Mod):Bool:=decide (m.name.size=0)&&decide (m.major=0)&&decide (m.minor=0)&&decide (m.text.size=0)&&decide (m.ex.length+m.im.length+m.pa.length=0)
def nG (kind:Int):Bool:=decide (kind=1) || decide (kind=3)
def RL (c:Cm):Int:=
 if c.kind<1\/4<c.kind then 7
 else if(nG c.kind=false/\Si c.m=false)\/(c.kind≠2/\c.nm.size≠0)\/(c.kind=2/\isName c.nm=false)then 1
 else if nG c.kind=true then aL c.m else 0
def aG (c:Cm):Tx:=UInt8.ofNat c.kind.toNat::(tx c.nm++if nG c.kind=true then dK c.m else[])
def jP :Cm:=⟨0,zeroMod,⟨#[]⟩⟩
def aS (l:Tx):Int×Cm:=match l with
 | []=>(1,jP)
 |b::r=>if nG b.toNat=true then(if dO r≠0 then(1,jP)else(0,⟨b.toNat,iD r,⟨#[]⟩⟩))
  else if RL ⟨b.toNat,zeroMod,sof r⟩≠0 then(1,jP)else(0,⟨b.toNat,zeroMod,sof r⟩)
theorem VX {kind:Int}:nG kind=true↔kind=1\/kind=3:=by simp[nG]
theorem lT {c:Cm}(h:RL c=0):(1<=c.kind/\c.kind<=4)/\(nG c.kind=false->Si c.m=true)/\(c.kind≠2->c.nm.size=0)/\(c.kind=2->isName c.nm=true)/\(nG c.kind=true->aL c.m=0):=by
 unfold RL at h
 by_cases h1:c.kind<1\/4<c.kind
 ·rw[if_pos h1]at h;omega
 ·rw[if_neg h1]at h
  by_cases h2:(nG c.kind=false/\Si c.m=false)\/(c.kind≠2/\c.nm.size≠0)\/(c.kind=2/\isName c.nm=false)
  ·rw[if_pos h2]at h;omega
  ·rw[if_neg h2]at h
   refine⟨by omega,fun e=>?_,fun e=>?_,fun e=>?_,fun e=>?_⟩
   ·cases hb:Si c.m
    ·exact absurd (.inl ⟨e,hb⟩) h2
    ·rfl
   ·exact Classical.byContradiction fun hz=>h2 (.inr (.inl ⟨e,hz⟩))
   ·cases hb:isName c.nm
    ·exact absurd (.inr (.inr ⟨e,hb⟩)) h2
    ·rfl
   ·rw[if_pos e]at h;exact h
theorem Gi {m:Mod}(h:Si m=true):m.bare=zeroMod:=by
 obtain⟨nm,mj,mn,t,ex,im,pa,eA,eC,iA,iC,pA,pC⟩:=m
 simp only[Si,Bool.and_eq_true,decide_eq_true_eq]at h
 obtain⟨⟨⟨⟨h1,h2⟩,h3⟩,h4⟩,h5⟩:=h
 have e0:∀b:ByteArray,b.size=0->b=sof []:=fun b hb=>by
  have:b.data=#[]:=Array.size_eq_zero_iff.1 hb
  cases b;simp_all
 have e1:=e0 nm h1
 have e2:=e0 t h4
 have e3:ex=[]:=GY9 (by omega)
 have e4:im=[]:=GY9 (by omega)
 have e5:pa=[]:=GY9 (by omega)
 subst e1 e2 e3 e4 e5 h2 h3
 rfl
theorem yJ (c:Cm):RL c.bare=RL c:=rfl
theorem Sr {c c':Cm}(h:c.bare=c'.bare):RL c=RL c':=by rw[<-yJ c,h,yJ]
theorem Jl {k:Int}(h1:1<=k)(h2:k<=4):((UInt8.ofNat k.toNat).toNat:Int)=k:=by
 simp only[UInt8.toNat_ofNat'];omega
theorem GG {c:Cm}(h:RL c=0):(aS (aG c)).1=0/\(aS (aG c)).2.bare=c.bare:=by
 obtain⟨hk,h1,h2,h3,h4⟩:=lT h
 have e:=Jl hk.1 hk.2
 obtain⟨kind,m,nm⟩:=c
 simp only at hk h1 h2 h3 h4 e
 have hz:kind≠2->nm=⟨#[]⟩:=fun q=>by
  have:=h2 q
  have:nm.data=#[]:=Array.size_eq_zero_iff.1 this
  cases nm;simp_all
 unfold aS aG
 simp only
 rw[e]
 cases hh:nG kind
 ·rw[if_neg (by simp)]
  simp only[Bool.false_eq_true,if_false,List.append_nil]
  have hb:=Gi (h1 hh)
  have hs:sof (tx nm)=nm:=iJ nm
  have e0:RL ⟨kind,zeroMod,nm⟩=0:=by
   rw[<-h]
   have:(⟨kind,m,nm⟩:Cm).bare=(⟨kind,zeroMod,nm⟩:Cm).bare:=by unfold Cm.bare;simp only[hb];rfl
   exact(Sr this).symm
  rw[hs,if_neg (by omega)]
  exact⟨rfl,by unfold Cm.bare;simp only[hb];rfl⟩
 ·rw[if_pos rfl]
  have hk2:kind≠2:=by have:=VX.1 hh;omega
  obtain rfl:=hz hk2
  have h0:=h4 hh
  simp only[if_true]
  have ht:tx (⟨#[]⟩:ByteArray)++dK m=dK m:=rfl
  rw[ht]
  obtain⟨d1,d2⟩:=Iz h0
  rw[if_neg (by omega)]
  refine⟨rfl,?_⟩
  generalize iD (dK m)=g at d2 ⊢
  exact congrArg (fun q=>(⟨kind,q,⟨#[]⟩⟩:Cm)) (iL d2)
theorem uM {l:Tx}(h:(aS l).1=0):RL (aS l).2=0:=by
 unfold aS at h ⊢
 match l with
 | []=>cases h
 |b::r=>
  simp only at h ⊢
  by_cases h1:nG b.toNat=true
  ·rw[if_pos h1]at h ⊢
   by_cases h2:dO r=0
   ·rw[if_neg (by omega)]
    have h3:=VX.1 h1
    unfold RL
    simp only
    rw[if_neg (by omega),if_neg,if_pos h1]
    ·have e:iD r=pQ r:=by unfold iD;rw[if_neg (by omega)]
     rw[e]
     unfold dO at h2
     split at h2
     ·omega
     ·exact h2
    ·rintro(⟨e,_⟩|⟨_,e⟩|⟨e,_⟩)
     ·rw[h1]at e;cases e
     ·exact e rfl
     ·omega
   ·rw[if_pos h2]at h;cases h
  ·rw[if_neg h1]at h ⊢
   by_cases h2:RL ⟨b.toNat,zeroMod,sof r⟩=0
   ·rw[if_neg (by omega)];exact h2
   ·rw[if_pos h2]at h;cases h
def doE (k:Krn)(l:List Plc)(c:Cm):Int:=if RL c≠0 then RL c else if c.kind=4 then 0 else kP k c l
def doL (k:Krn)(l:List Plc)(c:Cm):List Plc:=if doE k l c≠0 then l else if c.kind=4 then(bI 0 l).1 else cmL c l
theorem Tz {k k':Krn}{l l':List Plc}{c c':Cm}(hk:k.bare=k'.bare)(hl:aD l=aD l')(hc:c.bare=c'.bare):doE k l c=doE k' l' c':=by
 have e:c.kind=c'.kind:=by have:=congrArg Cm.kind hc;exact this
 unfold doE
 rw[Sr hc,e,VM hk hc hl]
theorem Su {k k':Krn}{l l':List Plc}{c c':Cm}(hk:k.bare=k'.bare)(hl:aD l=aD l')(hc:c.bare=c'.bare):aD (doL k l c)=aD (doL k' l' c'):=by
 have e:c.kind=c'.kind:=by have:=congrArg Cm.kind hc;exact this
 unfold doL
 rw[Tz hk hl hc,e]
 split
 ·exact hl
 ·split
  ·exact(EG hl 0).1
  ·exact zV hc hl
theorem OY {k:Krn}{l:List Plc}(c:Cm)(h:aZ k l=0):aZ k (doL k l c)=0:=by
 unfold doL
 by_cases h1:doE k l c=0
 ·rw[if_neg (by omega)]
  by_cases h2:c.kind=4
  ·rw[if_pos h2]
   exact GV h Uj.symm (Fa (oL h).2.1)
  ·rw[if_neg h2]
   unfold doE at h1
   by_cases h3:RL c=0
   ·rw[if_neg (by omega),if_neg h2]at h1
    exact(Px h1).2
   ·rw[if_pos h3]at h1;exact absurd h1 h3
 ·rw[if_pos h1];exact h
def Rl (k:Krn):List Plc->List Cm->List Plc
 |l,[]=>l
 |l,c::r=>Rl k (doL k l c) r
def eD (k:Krn):List Plc->List Cm->List Int
 |_,[]=>[]
 |l,c::r=>doE k l c::eD k (doL k l c) r
theorem nM (k:Krn):∀(a b:List Cm)(l:List Plc),Rl k l (a++b)=Rl k (Rl k l a) b
 | [],_,_=>rfl
 |_::a,b,_=>nM k a b _
theorem qC (k:Krn):∀(a b:List Cm)(l:List Plc),eD k l (a++b)=eD k l a++eD k (Rl k l a) b
 | [],_,_=>rfl
 |c::a,b,l=>by show _::eD k _ (a++b)=_;rw[qC k a b];rfl
theorem lY (k:Krn):∀(a:List Cm)(l:List Plc),(eD k l a).length=a.length
 | [],_=>rfl
 |_::a,_=>by show _+1=_;rw[lY k a];rfl
theorem lG {k:Krn}:∀(a:List Cm){l:List Plc},aZ k l=0->aZ k (Rl k l a)=0
 | [],_,h=>h
 |c::a,_,h=>lG a (OY c h)
abbrev Ty (l:List Cm):List Cm:=l.map Cm.bare
theorem Bf {k k':Krn}(hk:k.bare=k'.bare):∀{a a':List Cm}{l l':List Plc},aD l=aD l'->Ty a=Ty a'->aD (Rl k l a)=aD (Rl k' l' a')/\eD k l a=eD k' l' a'
 | [],[],l,l',hl,_=>⟨hl,rfl⟩
 |c::a,c'::a',l,l',hl,hc=>by
  have h1:c.bare=c'.bare:=(List.cons.inj hc).1
  have h2:Ty a=Ty a':=(List.cons.inj hc).2
  obtain⟨i1,i2⟩:=Bf hk (Su hk hl h1) h2
  exact⟨i1,by show _::_=_::_;rw[Tz hk hl h1,i2]⟩
def gD :List Tx->List Cm
 | []=>[]
 |s::r=>if(aS s).1=0 then(aS s).2::gD r else gD r
theorem tJ :∀(a b:List Tx),gD (a++b)=gD a++gD b
 | [],_=>rfl
 |s::a,b=>by
  show(if(aS s).1=0 then(aS s).2::gD (a++b)else gD (a++b))=(if(aS s).1=0 then(aS s).2::gD a else gD a)++gD b
  rw[tJ a b]
  by_cases h:(aS s).1=0
  ·rw[if_pos h,if_pos h];rfl
  ·rw[if_neg h,if_neg h]
end
section
open Go.RowKit
theorem mW (b:ByteArray):(b.toList==[])=decide (b.size=0):=by
 rw[Lib.toList_data,Bool.eq_iff_iff]
 simp[<-ByteArray.size_data]
theorem BB (k:Int)(w:World):Calls Tryz.prog 140 #[.int .i64 k] w fun e w'=>e=.returned (.bool (nG k))/\Below w.heap.size w w':=by
 obtain⟨V,hV⟩:=Nm (nG k)
 have hB:=Hp (GZ4 w.heap.size w)
 rw[<-hV]
 have e:nG k=(k==1 || k==3):=rfl
 rw[e]at hV
 cases t1:(k==1)
 ·cases t3:(k==3)
  ·rw[t1,t3]at hV;subst hV
   go_enter Tryz.func140,Tryz.ntmps140
   go_wp2_with fail
   go_ret
   exact⟨rfl,hB.out⟩
  ·rw[t1,t3]at hV;subst hV
   go_enter Tryz.func140,Tryz.ntmps140
   go_wp2_with fail
   go_ret
   exact⟨rfl,hB.out⟩
 ·rw[t1]at hV
  obtain rfl:V=true:=by rw[hV];rfl
  clear hV
  go_enter Tryz.func140,Tryz.ntmps140
  go_wp2_with fail
  go_ret
  exact⟨rfl,hB.out⟩
theorem OM (m:Mod)(w:World)(h1:m.ex.length<=big)(h2:m.im.length<=big)(h3:m.pa.length<=big):
  Calls Tryz.prog 203 #[m.v] w fun e w'=>e=.returned (.bool (Si m))/\Below w.heap.size w w':=by
 obtain⟨w0,hw0⟩:=Nm (w.alloc (.cells #[.string m.name,.int .i64 m.major,.int .i64 m.minor,.string m.text,.slice m.eA m.ex.length m.eC,.slice m.iA m.im.length m.iC,.slice m.pA m.pa.length m.pC] 70))
 obtain⟨g0,g1,g2,g3,g4,g5,g6,hz,hb0⟩:=wE hw0
 have hw0':=hw0.symm
 clear hw0
 have hB:=Hp hb0
 obtain⟨V,hV⟩:=Nm (Si m)
 rw[<-hV]
 unfold Si at hV
 unfold big at h1 h2 h3
 have e0:=mW m.name
 have e3:=mW m.text
 have e1:(m.major==0)=decide (m.major=0):=by rw[Bool.eq_iff_iff];simp
 have e2:(m.minor==0)=decide (m.minor=0):=by rw[Bool.eq_iff_iff];simp
 obtain⟨L,hL⟩:∃L:Int,L=(m.ex.length:Int)+m.im.length+m.pa.length:=⟨_,rfl⟩
 have e4:(L==0)=decide (m.ex.length+m.im.length+m.pa.length=0):=by rw[Bool.eq_iff_iff,beq_iff_eq,decide_eq_true_iff];omega
 rw[hL]at e4
 rw[<-e0,<-e1,<-e2,<-e3,<-e4]at hV
 clear e0 e1 e2 e3 e4 hL L
 cases t0:(m.name.toList==[])
 ·rw[t0]at hV
  obtain rfl:V=false:=by rw[hV];rfl
  clear hV
  go_enter Tryz.func203,Tryz.ntmps203
  go_wp2_with fail
  go_ret
  exact⟨rfl,hB.out⟩
 cases t1:(m.major==0)
 ·rw[t0,t1]at hV
  obtain rfl:V=false:=by rw[hV];rfl
  clear hV
  go_enter Tryz.func203,Tryz.ntmps203
  go_wp2_with fail
  go_ret
  exact⟨rfl,hB.out⟩
 cases t2:(m.minor==0)
 ·rw[t0,t1,t2]at hV
  obtain rfl:V=false:=by rw[hV];rfl
  clear hV
  go_enter Tryz.func203,Tryz.ntmps203
  go_wp2_with fail
  go_ret
  exact⟨rfl,hB.out⟩
 cases t3:(m.text.toList==[])
 ·rw[t0,t1,t2,t3]at hV
  obtain rfl:V=false:=by rw[hV];rfl
  clear hV
  go_enter Tryz.func203,Tryz.ntmps203
  go_wp2_with fail
  go_ret
  exact⟨rfl,hB.out⟩
 rw[t0,t1,t2,t3]at hV
 obtain rfl:V=((m.ex.length:Int)+m.im.length+m.pa.length==0):=by rw[hV];rfl
 clear hV
 go_enter Tryz.func203,Tryz.ntmps203
 go_wp2_with fail
 go_ret
 exact⟨rfl,hB.out⟩
def Cf (k:Int)(B Z I:Bool)(M:Int):Int:=
 if k<1\/4<k then 7 else if((!(nG k)&&!B) || (!(k==2)&&!Z) || ((k==2)&&!I))=true then 1 else if nG k=true then M else 0
theorem UR (k:Int)(m:Mod)(nm:ByteArray):RL ⟨k,m,nm⟩=Cf k (Si m) (nm.toList==[]) (isName nm) (aL m):=by
 unfold RL Cf
 rw[mW]
 by_cases h0:k<1\/4<k
 ·rw[if_pos h0,if_pos h0]
 rw[if_neg h0,if_neg h0]
 simp only
 generalize nG k=H
 generalize Si m=B
 generalize isName nm=I
 generalize nm.size=z
 have:((H=false/\B=false)\/(k≠2/\z≠0)\/(k=2/\I=false))↔((!H&&!B) || (!(k==2)&&!(decide (z=0))) || ((k==2)&&!I))=true:=by
  by_cases t:k=2<;>by_cases u:z=0<;>cases H<;>cases B<;>cases I<;>simp[t,u]
 simp only[this]
theorem Td (k:Int)(m:Mod)(nm:ByteArray)(w:World)(h:m.ok w)(hn:nm.size<=big):
  Calls Tryz.prog 139 #[.agg #[.int .i64 k,.string m.name,.int .i64 m.major,.int .i64 m.minor,.string m.text,.slice m.eA m.ex.length m.eC,.slice m.iA m.im.length m.iC,.slice m.pA m.pa.length m.pC,.string nm]] w fun e w'=>e=.returned (.int .i64 (RL ⟨k,m,nm⟩))/\Below w.heap.size w w':=by
 obtain⟨w0,hw0⟩:=Nm (w.alloc (.cells #[.int .i64 k,.string m.name,.int .i64 m.major,.int .i64 m.minor,.string m.text,.slice m.eA m.ex.length m.eC,.slice m.iA m.im.length m.iC,.slice m.pA m.pa.length m.pC,.string nm] 102))
 have hw0':=hw0.symm
 obtain⟨p0,p1,p2,p3,p4,p5,p6,p7,p8⟩:=dJ (W:=w0) (b:=w.heap.size) (c:=⟨k,m,nm⟩) (by rw[hw0];exact heap_alloc_new w _)
 simp only at p0 p1 p2 p3 p4 p5 p6 p7 p8
 have H0:=Hp (show Below w.heap.size w w0 from hw0▸ZB)
 have cH:=BB k
 have c2:=Hp (fun W=>OM m W h.ex.2.1 h.im.2.1 h.pa.2)
 have c3:=Hp (fun W=>qY nm W hn)
 have c4:=Hp (fun W(hb:Below w.heap.size w W)=>oM m W (h.below hb))
 rw[UR]
 generalize Si m=B at c2 ⊢
 generalize isName nm=I at c3 ⊢
 generalize aL m=M at c4 ⊢
 obtain⟨Z,hZ⟩:∃Z,(nm.toList==[])=Z:=⟨_,rfl⟩
 rw[hZ]
 obtain⟨E,hE⟩:=Nm (Cf k B Z I M)
 rw[<-hE]
 have hz0:w.heap.size<w0.heap.size:=by rw[hw0];simp
 clear hw0 h hn
 by_cases t1:k<1
 ·have t1b:decide (k<1)=true:=by simp[t1]
  clear cH
  obtain rfl:E=7:=by rw[hE];unfold Cf;rw[if_pos (.inl t1)]
  clear hE
  go_enter Tryz.func139,Tryz.ntmps139
  go_wp2_with fail
  go_ret
  exact⟨rfl,H0.out⟩
 by_cases t2:4<k
 ·have t1b:decide (k<1)=false:=by simp[t1]
  have t2b:decide (4<k)=true:=by simp[t2]
  clear t1 cH
  obtain rfl:E=7:=by rw[hE];unfold Cf;rw[if_pos (.inr t2)]
  clear hE
  go_enter Tryz.func139,Tryz.ntmps139
  go_wp2_with fail
  go_ret
  exact⟨rfl,H0.out⟩
 obtain rfl|rfl|rfl|rfl:k=1\/k=2\/k=3\/k=4:=by omega
 ·have c1:Hid (∀W,Calls Tryz.prog 140 #[.int .i64 1] W fun e w'=>e=.returned (.bool true)/\Below W.heap.size W w'):=Hp (fun W=>cH W)
  clear cH t1 t2
  cases Z
  ·obtain rfl:E=1:=by rw[hE];cases B<;>cases I<;>rfl
   clear hE
   go_enter Tryz.func139,Tryz.ntmps139
   go_wp2_with fail
   refine(c1.out _).mono ?_;rintro e w1 ⟨rfl,hb1⟩
   have HB1:=Hp (H0.trans (hb1.mono H0.size))
   have hz1:w.heap.size<w1.heap.size:=GY0 hz0 hb1.size
   obtain⟨hc1,hf1⟩:=aJ hb1;clear hb1
   go_wp2_with fail
   go_ret
   exact⟨rfl,HB1.out⟩
  ·obtain rfl:E=M:=by rw[hE];cases B<;>cases I<;>rfl
   clear hE
   go_enter Tryz.func139,Tryz.ntmps139
   go_wp2_with fail
   refine(c1.out _).mono ?_;rintro e w1 ⟨rfl,hb1⟩
   have HB1:=Hp (H0.trans (hb1.mono H0.size))
   have hz1:w.heap.size<w1.heap.size:=GY0 hz0 hb1.size
   obtain⟨hc1,hf1⟩:=aJ hb1;clear hb1
   go_wp2_with fail
   refine(c1.out _).mono ?_;rintro e w2 ⟨rfl,hb2⟩
   have HB2:=Hp (HB1.trans (hb2.mono HB1.size))
   have hz2:w.heap.size<w2.heap.size:=GY0 hz1 hb2.size
   obtain⟨hc2,hf2⟩:=aJ hb2;clear hb2
   go_wp2_with fail
   refine(c4.out _ HB2.out).mono ?_;rintro e w3 ⟨rfl,hb3⟩
   have HB3:=Hp (HB2.trans (hb3.mono HB2.size))
   have hz3:w.heap.size<w3.heap.size:=GY0 hz2 hb3.size
   obtain⟨hc3,hf3⟩:=aJ hb3;clear hb3
   go_wp2_with fail
   go_ret
   exact⟨rfl,HB3.out⟩
 ·have c1:Hid (∀W,Calls Tryz.prog 140 #[.int .i64 2] W fun e w'=>e=.returned (.bool false)/\Below W.heap.size W w'):=Hp (fun W=>cH W)
  clear cH t1 t2
  cases B
  ·obtain rfl:E=1:=by rw[hE];cases Z<;>cases I<;>rfl
   clear hE
   go_enter Tryz.func139,Tryz.ntmps139
   go_wp2_with fail
   refine(c1.out _).mono ?_;rintro e w1 ⟨rfl,hb1⟩
   have HB1:=Hp (H0.trans (hb1.mono H0.size))
   have hz1:w.heap.size<w1.heap.size:=GY0 hz0 hb1.size
   obtain⟨hc1,hf1⟩:=aJ hb1;clear hb1
   go_wp2_with fail
   refine(c2.out _).mono ?_;rintro e w2 ⟨rfl,hb2⟩
   have HB2:=Hp (HB1.trans (hb2.mono HB1.size))
   have hz2:w.heap.size<w2.heap.size:=GY0 hz1 hb2.size
   obtain⟨hc2,hf2⟩:=aJ hb2;clear hb2
   go_wp2_with fail
   go_ret
   exact⟨rfl,HB2.out⟩
  cases I
  ·obtain rfl:E=1:=by rw[hE];cases Z<;>rfl
   clear hE
   go_enter Tryz.func139,Tryz.ntmps139
   go_wp2_with fail
   refine(c1.out _).mono ?_;rintro e w1 ⟨rfl,hb1⟩
   have HB1:=Hp (H0.trans (hb1.mono H0.size))
   have hz1:w.heap.size<w1.heap.size:=GY0 hz0 hb1.size
   obtain⟨hc1,hf1⟩:=aJ hb1;clear hb1
   go_wp2_with fail
   refine(c2.out _).mono ?_;rintro e w2 ⟨rfl,hb2⟩
   have HB2:=Hp (HB1.trans (hb2.mono HB1.size))
   have hz2:w.heap.size<w2.heap.size:=GY0 hz1 hb2.size
   obtain⟨hc2,hf2⟩:=aJ hb2;clear hb2
   go_wp2_with fail
   refine(c3.out _).mono ?_;rintro e w3 ⟨rfl,hb3⟩
   have HB3:=Hp (HB2.trans (hb3.mono HB2.size))
   have hz3:w.heap.size<w3.heap.size:=GY0 hz2 hb3.size
   obtain⟨hc3,hf3⟩:=aJ hb3;clear hb3
   go_wp2_with fail
   go_ret
   exact⟨rfl,HB3.out⟩
  ·obtain rfl:E=0:=by rw[hE];cases Z<;>rfl
   clear hE
   go_enter Tryz.func139,Tryz.ntmps139
   go_wp2_with fail
   refine(c1.out _).mono ?_;rintro e w1 ⟨rfl,hb1⟩
   have HB1:=Hp (H0.trans (hb1.mono H0.size))
   have hz1:w.heap.size<w1.heap.size:=GY0 hz0 hb1.size
   obtain⟨hc1,hf1⟩:=aJ hb1;clear hb1
   go_wp2_with fail
   refine(c2.out _).mono ?_;rintro e w2 ⟨rfl,hb2⟩
   have HB2:=Hp (HB1.trans (hb2.mono HB1.size))
   have hz2:w.heap.size<w2.heap.size:=GY0 hz1 hb2.size
   obtain⟨hc2,hf2⟩:=aJ hb2;clear hb2
   go_wp2_with fail
   refine(c3.out _).mono ?_;rintro e w3 ⟨rfl,hb3⟩
   have HB3:=Hp (HB2.trans (hb3.mono HB2.size))
   have hz3:w.heap.size<w3.heap.size:=GY0 hz2 hb3.size
   obtain⟨hc3,hf3⟩:=aJ hb3;clear hb3
   go_wp2_with fail
   refine(c1.out _).mono ?_;rintro e w4 ⟨rfl,hb4⟩
   have HB4:=Hp (HB3.trans (hb4.mono HB3.size))
   have hz4:w.heap.size<w4.heap.size:=GY0 hz3 hb4.size
   obtain⟨hc4,hf4⟩:=aJ hb4;clear hb4
   go_wp2_with fail
   go_ret
   exact⟨rfl,HB4.out⟩
 ·have c1:Hid (∀W,Calls Tryz.prog 140 #[.int .i64 3] W fun e w'=>e=.returned (.bool true)/\Below W.heap.size W w'):=Hp (fun W=>cH W)
  clear cH t1 t2
  cases Z
  ·obtain rfl:E=1:=by rw[hE];cases B<;>cases I<;>rfl
   clear hE
   go_enter Tryz.func139,Tryz.ntmps139
   go_wp2_with fail
   refine(c1.out _).mono ?_;rintro e w1 ⟨rfl,hb1⟩
   have HB1:=Hp (H0.trans (hb1.mono H0.size))
   have hz1:w.heap.size<w1.heap.size:=GY0 hz0 hb1.size
   obtain⟨hc1,hf1⟩:=aJ hb1;clear hb1
   go_wp2_with fail
   go_ret
   exact⟨rfl,HB1.out⟩
  ·obtain rfl:E=M:=by rw[hE];cases B<;>cases I<;>rfl
   clear hE
   go_enter Tryz.func139,Tryz.ntmps139
   go_wp2_with fail
   refine(c1.out _).mono ?_;rintro e w1 ⟨rfl,hb1⟩
   have HB1:=Hp (H0.trans (hb1.mono H0.size))
   have hz1:w.heap.size<w1.heap.size:=GY0 hz0 hb1.size
   obtain⟨hc1,hf1⟩:=aJ hb1;clear hb1
   go_wp2_with fail
   refine(c1.out _).mono ?_;rintro e w2 ⟨rfl,hb2⟩
   have HB2:=Hp (HB1.trans (hb2.mono HB1.size))
   have hz2:w.heap.size<w2.heap.size:=GY0 hz1 hb2.size
   obtain⟨hc2,hf2⟩:=aJ hb2;clear hb2
   go_wp2_with fail
   refine(c4.out _ HB2.out).mono ?_;rintro e w3 ⟨rfl,hb3⟩
   have HB3:=Hp (HB2.trans (hb3.mono HB2.size))
   have hz3:w.heap.size<w3.heap.size:=GY0 hz2 hb3.size
   obtain⟨hc3,hf3⟩:=aJ hb3;clear hb3
   go_wp2_with fail
   go_ret
   exact⟨rfl,HB3.out⟩
 ·have c1:Hid (∀W,Calls Tryz.prog 140 #[.int .i64 4] W fun e w'=>e=.returned (.bool false)/\Below W.heap.size W w'):=Hp (fun W=>cH W)
  clear cH t1 t2
  cases B
  ·obtain rfl:E=1:=by rw[hE];cases Z<;>cases I<;>rfl
   clear hE
   go_enter Tryz.func139,Tryz.ntmps139
   go_wp2_with fail
   refine(c1.out _).mono ?_;rintro e w1 ⟨rfl,hb1⟩
   have HB1:=Hp (H0.trans (hb1.mono H0.size))
   have hz1:w.heap.size<w1.heap.size:=GY0 hz0 hb1.size
   obtain⟨hc1,hf1⟩:=aJ hb1;clear hb1
   go_wp2_with fail
   refine(c2.out _).mono ?_;rintro e w2 ⟨rfl,hb2⟩
   have HB2:=Hp (HB1.trans (hb2.mono HB1.size))
   have hz2:w.heap.size<w2.heap.size:=GY0 hz1 hb2.size
   obtain⟨hc2,hf2⟩:=aJ hb2;clear hb2
   go_wp2_with fail
   go_ret
   exact⟨rfl,HB2.out⟩
  cases Z
  ·obtain rfl:E=1:=by rw[hE];cases I<;>rfl
   clear hE
   go_enter Tryz.func139,Tryz.ntmps139
   go_wp2_with fail
   refine(c1.out _).mono ?_;rintro e w1 ⟨rfl,hb1⟩
   have HB1:=Hp (H0.trans (hb1.mono H0.size))
   have hz1:w.heap.size<w1.heap.size:=GY0 hz0 hb1.size
   obtain⟨hc1,hf1⟩:=aJ hb1;clear hb1
   go_wp2_with fail
   refine(c2.out _).mono ?_;rintro e w2 ⟨rfl,hb2⟩
   have HB2:=Hp (HB1.trans (hb2.mono HB1.size))
   have hz2:w.heap.size<w2.heap.size:=GY0 hz1 hb2.size
   obtain⟨hc2,hf2⟩:=aJ hb2;clear hb2
   go_wp2_with fail
   go_ret
   exact⟨rfl,HB2.out⟩
  ·obtain rfl:E=0:=by rw[hE];cases I<;>rfl
   clear hE
   go_enter Tryz.func139,Tryz.ntmps139
   go_wp2_with fail
   refine(c1.out _).mono ?_;rintro e w1 ⟨rfl,hb1⟩
   have HB1:=Hp (H0.trans (hb1.mono H0.size))
   have hz1:w.heap.size<w1.heap.size:=GY0 hz0 hb1.size
   obtain⟨hc1,hf1⟩:=aJ hb1;clear hb1
   go_wp2_with fail
   refine(c2.out _).mono ?_;rintro e w2 ⟨rfl,hb2⟩
   have HB2:=Hp (HB1.trans (hb2.mono HB1.size))
   have hz2:w.heap.size<w2.heap.size:=GY0 hz1 hb2.size
   obtain⟨hc2,hf2⟩:=aJ hb2;clear hb2
   go_wp2_with fail
   refine(c1.out _).mono ?_;rintro e w3 ⟨rfl,hb3⟩
   have HB3:=Hp (HB2.trans (hb3.mono HB2.size))
   have hz3:w.heap.size<w3.heap.size:=GY0 hz2 hb3.size
   obtain⟨hc3,hf3⟩:=aJ hb3;clear hb3
   go_wp2_with fail
   go_ret
   exact⟨rfl,HB3.out⟩
theorem VB (c:Cm)(w:World)(h:c.m.ok w)(hn:c.nm.size<=big):
  Calls Tryz.prog 139 #[c.v] w fun e w'=>e=.returned (.int .i64 (RL c))/\Below w.heap.size w w':=Td c.kind c.m c.nm w h hn
end
section
open Go
open Go.RowKit Go.Lib
def Bq (w1:World)(E:Int)(k:Krn)(L:List Plc)(p e:Value)(wx:World):Prop:=
 ∃(B:Nat)(k':Krn)(A':Option Addr)(l':List Plc)(c':Nat),p=.pointer (some ⟨B,0,none⟩)/\e=.int .i64 E/\wx.heap[B]? =some (.cells #[.int .i64 k'.major,.int .i64 k'.minor,.slice k'.eA k'.ex.length k'.eC,.slice A' l'.length c'] 39 (0,0))/\
  w1.heap.size<=B/\UQ wx w1.heap.size k' A' l' c' (wK E k) (wL E L)/\Below w1.heap.size w1 wx
theorem Bq.new {w1 w2:World}{E:Int}{k k':Krn}{L l':List Plc}{A':Option Addr}{c':Nat}(hb:Below w1.heap.size w1 w2)(h:UQ w2 w1.heap.size k' A' l' c' (wK E k) (wL E L)):
  Bq w1 E k L (.pointer (some ⟨w2.heap.size,0,none⟩)) (.int .i64 E) (w2.alloc (.cells #[.int .i64 k'.major,.int .i64 k'.minor,.slice k'.eA k'.ex.length k'.eC,.slice A' l'.length c'] 39)):=by
 have ha:Below w2.heap.size w2 (w2.alloc (.cells #[.int .i64 k'.major,.int .i64 k'.minor,.slice k'.eA k'.ex.length k'.eC,.slice A' l'.length c'] 39)):=ZB
 exact⟨_,k',A',l',c',rfl,rfl,heap_alloc_new _ _,hb.size,⟨h.own.below ha,h.RU,h.mods⟩,hb.trans (ha.mono hb.size)⟩
theorem Bq.old {w1 w2:World}{E:Int}{k k':Krn}{L l':List Plc}{A':Option Addr}{c' B:Nat}(hz:w2.heap[B]? =some (.cells #[.int .i64 0,.int .i64 0,.slice none 0 0,.slice none 0 0] 39 (0,0)))(hB:w1.heap.size<=B)(hb:Below w1.heap.size w1 w2)(h:UQ w2 w1.heap.size k' A' l' c' (wK E k) (wL E L)):
  Bq w1 E k L (.pointer (some ⟨B,0,none⟩)) (.int .i64 E) ((((w2.setCell ⟨B,0,none⟩ (.int .i64 k'.major)).setCell ⟨B,1,none⟩ (.int .i64 k'.minor)).setCell ⟨B,2,none⟩ (.slice k'.eA k'.ex.length k'.eC)).setCell ⟨B,3,none⟩ (.slice A' l'.length c')):=by
 obtain⟨hg,ho⟩:=gY hz (.int .i64 k'.major) (.int .i64 k'.minor) (.slice k'.eA k'.ex.length k'.eC) (.slice A' l'.length c')
 have hkr:=ho.kp hz (ts:=[39]) (by simp)
 exact⟨_,k',A',l',c',rfl,rfl,hg,hB,⟨h.own.kp hkr (by decide) (by decide) (by decide) (by decide),h.RU,h.mods⟩,hb.trans ((ho.below (GY2 (ZL hz))).mono hB)⟩
theorem Qe {w1 W w2:World}{k' K:Krn}{A':Option Addr}{l' L:List Plc}{c':Nat}(hb:Below w1.heap.size w1 W)(hb2:Below W.heap.size W w2)(h:UQ w2 W.heap.size k' A' l' c' K L):Below w1.heap.size w1 w2/\UQ w2 w1.heap.size k' A' l' c' K L:=⟨hb.trans (hb2.mono hb.size),⟨RH h.own.ex hb.size,h.own.mods.le hb.size⟩,h.RU,h.mods⟩
theorem Bw {w W:World}{base bp b2:Nat}{k k1 k':Krn}{A:Option Addr}{l L l':List Plc}{c:Nat}{A':Option Addr}{c':Nat}(h:jR W base bp k A l c)(ho:Only bp w W)(hk:k'.bare=k1.bare)(hl:aD l'=aD L)(hown:jS W b2 k' A' l' c')(hb2:base<=b2):
  (∃k2 A2 l2 c2,jR ((((W.setCell ⟨bp,0,none⟩ (.int .i64 k'.major)).setCell ⟨bp,1,none⟩ (.int .i64 k'.minor)).setCell ⟨bp,2,none⟩ (.slice k'.eA k'.ex.length k'.eC)).setCell ⟨bp,3,none⟩ (.slice A' l'.length c')) base bp k2 A2 l2 c2/\k2.bare=k1.bare/\aD l2=aD L)/\
   Only bp w ((((W.setCell ⟨bp,0,none⟩ (.int .i64 k'.major)).setCell ⟨bp,1,none⟩ (.int .i64 k'.minor)).setCell ⟨bp,2,none⟩ (.slice k'.eA k'.ex.length k'.eC)).setCell ⟨bp,3,none⟩ (.slice A' l'.length c')):=by
 obtain⟨hg,ho2⟩:=gY h.heap (.int .i64 k'.major) (.int .i64 k'.minor) (.slice k'.eA k'.ex.length k'.eC) (.slice A' l'.length c')
 have hkr:=ho2.kp h.heap (ts:=[126]) (by simp)
 have hown2:=hown.kp hkr (by decide) (by decide) (by decide) (by decide)
 exact⟨⟨k',A',l',c',⟨hg,⟨RH hown2.ex hb2,hown2.mods.le hb2⟩,h.low⟩,hk,hl⟩,ho.trans ho2⟩
theorem Pm (base bp:Nat)(k:Krn)(A:Option Addr)(c:Nat)(l:List Plc)(cm:Cm)(w:World)(h:jR w base bp k A l c)(hr:aZ k l=0)(hm:cm.m.ok w)(hn:cm.nm.size<=big):
  Calls Tryz.prog 80 #[.pointer (some ⟨bp,0,none⟩),cm.v] w (Did w base bp k (doE k l cm) (doL k l cm)):=by
 obtain⟨w0,hw0⟩:=Nm (w.alloc (.cells (cmA cm) 102))
 have hb0:Below w.heap.size w w0:=hw0▸ZB
 have hC0:w0.heap[w.heap.size]? =some (.cells (cmA cm) 102 (0,0)):=by rw[hw0];exact heap_alloc_new w _
 obtain⟨p0,p1,p2,p3,p4,p5,p6,p7,p8⟩:=dJ hC0
 have HC0:=Hp hC0
 have HR0:=Hp (h.below hb0)
 have HB0:=Hp hb0
 have HLT:=Hp h.lt
 have HLOW:=Hp (show base<=w.heap.size from GY1 h.low (GY2 h.lt))
 have c1:=Hp (VB cm w0 (hm.below hb0) hn)
 have cD:=Hp (fun W(hb:Below w.heap.size w W)=>show Calls Tryz.prog 151 #[.agg #[.int .i64 k.major,.int .i64 k.minor,.slice k.eA k.ex.length k.eC,.slice A l.length c],.agg #[.int .i64 cm.kind,.string cm.m.name,.int .i64 cm.m.major,.int .i64 cm.m.minor,.string cm.m.text,.slice cm.m.eA cm.m.ex.length cm.m.eC,.slice cm.m.iA cm.m.im.length cm.m.iC,.slice cm.m.pA cm.m.pa.length cm.m.pC,.string cm.nm]] W (U7 W (kP k cm l) k (cmL cm l)) from Ps k A c l cm W (jS.right (h.own.below hb) hr).1 (jS.right (h.own.below hb) hr).2 (hm.below hb) hr)
 obtain⟨f1,f2,f3,f4⟩:=oL hr
 have cP:=Hp (fun W(hb:Below w.heap.size w W)=>FP k A c l W (jS.right (h.own.below hb) hr).1 (jS.right (h.own.below hb) hr).2 f1 f2 f3 f4)
 obtain⟨E,hE⟩:=Nm (doE k l cm)
 obtain⟨L,hL⟩:=Nm (doL k l cm)
 rw[<-hE,<-hL]
 unfold doL at hL
 rw[<-hE]at hL
 unfold doE at hE
 have hw0':=hw0.symm
 clear hw0 hb0 hC0 h hr hm hn f1 f2 f3 f4
 by_cases t:RL cm=0
 ·rw[if_neg (by omega)]at hE
  rw[t]at c1
  by_cases t4:cm.kind=4
  ·rw[if_pos t4]at hE
   subst hE
   rw[if_neg (by decide),if_pos t4]at hL
   subst hL
   have t4':(cm.kind==4)=true:=by simp[t4]
   clear t t4
   go_enter Tryz.func80,Tryz.ntmps80
   go_wp2_with fail
   refine(c1.out).mono ?_;rintro e w1 ⟨rfl,hb1⟩
   have HR1:=Hp (HR0.below hb1)
   obtain⟨p0,p1,p2,p3,p4,p5,p6,p7,p8⟩:=dJ ((hb1.block _ (ZL HC0.out)).trans HC0.out)
   obtain⟨_,q0,q1,q2,q3,f0,f1,f2,f3⟩:=aB HR1.heap
   have HB1:=Hp (HB0.trans (hb1.mono HB0.size))
   clear hb1
   go_wp2_with fail
   refine(cP.out _ HB1.out).mono ?_;rintro e w2 ⟨⟨k',A',l',c',rfl,hrg⟩,hb2⟩
   have HR2:=Hp (HR1.below hb2)
   have HRG:=Hp hrg
   have HB2:=Hp (HB1.trans (hb2.mono HB1.size))
   obtain⟨_,q0,q1,q2,q3,f0,f1,f2,f3⟩:=aB HR2.heap
   clear hb2 hrg
   go_wp2_with fail
   go_ret
   obtain⟨h1,h2⟩:=Bw HR2.out (Only.of_below HB2.out) HRG.RU HRG.mods HRG.own (GY1 HLOW.out HB1.size)
   exact⟨rfl,h1,h2⟩
  ·rw[if_neg t4]at hE hL
   rw[<-hE]at cD
   obtain⟨L0,hL0⟩:=Nm (cmL cm l)
   rw[<-hL0]at cD hL
   have t4':(cm.kind==4)=false:=by simp[t4]
   have HL:=Hp hL
   clear t t4 hE hL hL0 cP
   go_enter Tryz.func80,Tryz.ntmps80
   go_wp2_with fail
   refine(c1.out).mono ?_;rintro e w1 ⟨rfl,hb1⟩
   have HR1:=Hp (HR0.below hb1)
   obtain⟨p0,p1,p2,p3,p4,p5,p6,p7,p8⟩:=dJ ((hb1.block _ (ZL HC0.out)).trans HC0.out)
   obtain⟨_,q0,q1,q2,q3,_⟩:=aB HR1.heap
   have HB1:=Hp (HB0.trans (hb1.mono HB0.size))
   have l1:=HR1.lt
   have l2:w.heap.size<w1.heap.size:=GY0 (ZL HC0.out) hb1.size
   clear hb1 c1
   go_upto_region 7 with fail
   have HCH:=Hp (show fI w1 (fun W'=>Below w1.heap.size w1 W'/\W'.cell? ⟨bp,0,none⟩=some (.int .i64 k.major)/\W'.cell? ⟨bp,1,none⟩=some (.int .i64 k.minor)/\W'.cell? ⟨bp,2,none⟩=some (.slice k.eA k.ex.length k.eC)/\W'.cell? ⟨bp,3,none⟩=some (.slice A l.length c)/\W'.cell? ⟨w.heap.size,0,none⟩=some (.int .i64 cm.kind)/\W'.cell? ⟨w.heap.size,1,none⟩=some (.string cm.m.name)/\W'.cell? ⟨w.heap.size,2,none⟩=some (.int .i64 cm.m.major)/\W'.cell? ⟨w.heap.size,3,none⟩=some (.int .i64 cm.m.minor)/\W'.cell? ⟨w.heap.size,4,none⟩=some (.string cm.m.text)/\W'.cell? ⟨w.heap.size,5,none⟩=some (.slice cm.m.eA cm.m.ex.length cm.m.eC)/\W'.cell? ⟨w.heap.size,6,none⟩=some (.slice cm.m.iA cm.m.im.length cm.m.iC)/\W'.cell? ⟨w.heap.size,7,none⟩=some (.slice cm.m.pA cm.m.pa.length cm.m.pC)/\W'.cell? ⟨w.heap.size,8,none⟩=some (.string cm.nm)) from dE (by repeat' first|(with_reducible exact bC.cell (by first|omega|(simp;omega)|(simp only[aA];omega)))|refine bC.and ?_ ?_))
   have HC0:=Hp (HCH.now ⟨GZ4 _ _,by assumption,by assumption,by assumption,by assumption,by assumption,by assumption,by assumption,by assumption,by assumption,by assumption,by assumption,by assumption,by assumption⟩)
   have HCD:=Hp HCH.D
   have HCS:=Hp HCH.S
   have HCA:=Hp HCH.A
   have HCX:=Hp HCH.X
   have HCL:=Hp HCH.L
   go_cut [6,7] from 27 to 35 (fun p e wx=>Bq w1 E k L0 p e wx)
   case first=>
    have HZN:=Hp (show∀W':World,Below (w1.alloc (.cells #[.int .i64 0,.int .i64 0,.slice none 0 0,.slice none 0 0] 39)).drew.heap.size (w1.alloc (.cells #[.int .i64 0,.int .i64 0,.slice none 0 0,.slice none 0 0] 39)).drew W'->W'.heap[w1.heap.size]? =some (.cells #[.int .i64 0,.int .i64 0,.slice none 0 0,.slice none 0 0] 39 (0,0)) from
     fun W' hb=>(hb.block w1.heap.size (by show w1.heap.size<(w1.alloc _).heap.size;simp)).trans (heap_alloc_new w1 _))
    have HX4:=Hp (show∀(W:World),(Below w1.heap.size w1 W/\W.cell? ⟨bp,0,none⟩=some (.int .i64 k.major)/\W.cell? ⟨bp,1,none⟩=some (.int .i64 k.minor)/\W.cell? ⟨bp,2,none⟩=some (.slice k.eA k.ex.length k.eC)/\W.cell? ⟨bp,3,none⟩=some (.slice A l.length c)/\W.cell? ⟨w.heap.size,0,none⟩=some (.int .i64 cm.kind)/\W.cell? ⟨w.heap.size,1,none⟩=some (.string cm.m.name)/\W.cell? ⟨w.heap.size,2,none⟩=some (.int .i64 cm.m.major)/\W.cell? ⟨w.heap.size,3,none⟩=some (.int .i64 cm.m.minor)/\W.cell? ⟨w.heap.size,4,none⟩=some (.string cm.m.text)/\W.cell? ⟨w.heap.size,5,none⟩=some (.slice cm.m.eA cm.m.ex.length cm.m.eC)/\W.cell? ⟨w.heap.size,6,none⟩=some (.slice cm.m.iA cm.m.im.length cm.m.iC)/\W.cell? ⟨w.heap.size,7,none⟩=some (.slice cm.m.pA cm.m.pa.length cm.m.pC)/\W.cell? ⟨w.heap.size,8,none⟩=some (.string cm.nm))->∀(b:Nat),w1.heap.size<=b->∀v0 v1 v2 v3 W2,W2=(((W.setCell ⟨b,0,none⟩ v0).setCell ⟨b,1,none⟩ v1).setCell ⟨b,2,none⟩ v2).setCell ⟨b,3,none⟩ v3->(Below w1.heap.size w1 W2/\W2.cell? ⟨bp,0,none⟩=some (.int .i64 k.major)/\W2.cell? ⟨bp,1,none⟩=some (.int .i64 k.minor)/\W2.cell? ⟨bp,2,none⟩=some (.slice k.eA k.ex.length k.eC)/\W2.cell? ⟨bp,3,none⟩=some (.slice A l.length c)/\W2.cell? ⟨w.heap.size,0,none⟩=some (.int .i64 cm.kind)/\W2.cell? ⟨w.heap.size,1,none⟩=some (.string cm.m.name)/\W2.cell? ⟨w.heap.size,2,none⟩=some (.int .i64 cm.m.major)/\W2.cell? ⟨w.heap.size,3,none⟩=some (.int .i64 cm.m.minor)/\W2.cell? ⟨w.heap.size,4,none⟩=some (.string cm.m.text)/\W2.cell? ⟨w.heap.size,5,none⟩=some (.slice cm.m.eA cm.m.ex.length cm.m.eC)/\W2.cell? ⟨w.heap.size,6,none⟩=some (.slice cm.m.iA cm.m.im.length cm.m.iC)/\W2.cell? ⟨w.heap.size,7,none⟩=some (.slice cm.m.pA cm.m.pa.length cm.m.pC)/\W2.cell? ⟨w.heap.size,8,none⟩=some (.string cm.nm)) from
     fun W hc b hb v0 v1 v2 v3 W2 e=>e▸HCX.out _ b 3 v3 hb (HCX.out _ b 2 v2 hb (HCX.out _ b 1 v1 hb (HCX.out _ b 0 v0 hb hc))))
    go_region_held3 (fun W'=>Below w1.heap.size w1 W'/\W'.cell? ⟨bp,0,none⟩=some (.int .i64 k.major)/\W'.cell? ⟨bp,1,none⟩=some (.int .i64 k.minor)/\W'.cell? ⟨bp,2,none⟩=some (.slice k.eA k.ex.length k.eC)/\W'.cell? ⟨bp,3,none⟩=some (.slice A l.length c)/\W'.cell? ⟨w.heap.size,0,none⟩=some (.int .i64 cm.kind)/\W'.cell? ⟨w.heap.size,1,none⟩=some (.string cm.m.name)/\W'.cell? ⟨w.heap.size,2,none⟩=some (.int .i64 cm.m.major)/\W'.cell? ⟨w.heap.size,3,none⟩=some (.int .i64 cm.m.minor)/\W'.cell? ⟨w.heap.size,4,none⟩=some (.string cm.m.text)/\W'.cell? ⟨w.heap.size,5,none⟩=some (.slice cm.m.eA cm.m.ex.length cm.m.eC)/\W'.cell? ⟨w.heap.size,6,none⟩=some (.slice cm.m.iA cm.m.im.length cm.m.iC)/\W'.cell? ⟨w.heap.size,7,none⟩=some (.slice cm.m.pA cm.m.pa.length cm.m.pC)/\W'.cell? ⟨w.heap.size,8,none⟩=some (.string cm.nm)) (first|with_reducible exact HC0.out|with_reducible exact HCD.out _ HC0.out|with_reducible assumption|with_reducible exact HCS.out _ _ HC0.out HBW2.out|with_reducible exact HCA.out _ _ (HCD.out _ HC0.out)|with_reducible exact HCA.out _ _ HC0.out|with_reducible exact HCD.out _ (HCA.out _ _ HC0.out)|with_reducible exact HCA.out _ _ (HCS.out _ _ HC0.out HBW2.out)|with_reducible exact HX4.out _ (HCS.out _ _ HC0.out HBW2.out) _ (GZ3 _) _ _ _ _ _ rfl|with_reducible exact HX4.out _ (HCA.out _ _ (HCS.out _ _ HC0.out HBW2.out)) _ HBW2.out.size _ _ _ _ _ rfl) (first|(go_at_call 151;(with_reducible refine(cD.out _ (HB1.out.trans ((HCL.out _ (by assumption)).mono HB1.out.size))).mono ?_);rintro e w2 ⟨⟨k',A',l',c',rfl,hrg⟩,hb2⟩;obtain⟨hbw2,hrg2⟩:=Qe (HCL.out _ (by assumption)) hb2 hrg;have HBW2:=Hp hbw2;have HRG2:=Hp hrg2;(try(have hz2:=HZN.out w2 hb2;obtain⟨_,z0,z1,z2,z3,zf0,zf1,zf2,zf3⟩:=aB hz2))))
    all_goals(
     go_wp2_with fail
     go_meet
     first
      |exact Bq.new HBW2.out HRG2.out
      |exact Bq.old hz2 (GZ3 _) HBW2.out HRG2.out)
   case rest=>
    obtain⟨B,k',A',l',c',rfl,rfl,hB,hlo,hrg,hb⟩:=hcut
    obtain⟨w2,rfl⟩:=Nm wc
    obtain⟨_,z0,z1,z2,z3,_⟩:=aB hB
    have HR2:=Hp (HR1.below hb)
    have HRG:=Hp hrg
    have HB2:=Hp (HB1.trans (hb.mono HB1.size))
    obtain⟨_,q0,q1,q2,q3,f0,f1,f2,f3⟩:=aB HR2.heap
    clear HC0 HCD HCS HCA HCL HCX hb hrg hB hlo cD p0 p1 p2 p3 p4 p5 p6 p7 p8
    by_cases s:E=0
    ·subst s
     have e1:=HRG.RU
     have e2:=HRG.mods
     rw[wK0]at e1
     rw[wL0]at e2
     have E1:=Hp e1
     have E2:=Hp (e2.trans (by rw[HL.out];rfl:aD L0=aD L))
     clear e1 e2
     go_wp2_with fail
     go_ret
     obtain⟨h1,h2⟩:=Bw HR2.out (Only.of_below HB2.out) E1.out E2.out HRG.own (GY1 HLOW.out HB1.size)
     exact⟨rfl,h1,h2⟩
    ·have s':(E==0)=false:=by simp[s]
     have E2:=Hp (show L=l by rw[HL.out,if_pos s])
     clear s
     go_wp2_with fail
     go_ret
     exact⟨rfl,⟨k,A,l,c,HR2.out,rfl,by rw[E2.out]⟩,Only.of_below HB2.out⟩
 ·rw[if_pos t]at hE
  rw[<-hE]at c1
  have hEn:E≠0:=by rw[hE];exact t
  have s':(E != 0)=true:=by simp[hEn]
  have E2:=Hp (show L=l by rw[hL,if_pos hEn])
  clear t hE hEn hL cP cD
  go_enter Tryz.func80,Tryz.ntmps80
  go_wp2_with fail
  refine(c1.out).mono ?_;rintro e w1 ⟨rfl,hb1⟩
  have HR1:=Hp (HR0.below hb1)
  have HB1:=Hp (HB0.trans (hb1.mono HB0.size))
  clear hb1
  go_wp2_with fail
  go_ret
  exact⟨rfl,⟨k,A,l,c,HR1.out,rfl,by rw[E2.out]⟩,Only.of_below HB1.out⟩
end
section
open Go
open Go.RowKit
open Gs (Tx)
theorem Am {α:Type}{f:α->List UInt8}{K N:Nat}{l:List α}(h:∀x∈l,(f x).length<=K)(hn:l.length<=N):(l.flatMap f).length<=N*K:=
 GY1 (kF h) (Nat.mul_le_mul_right K hn)
theorem Ca {m:Mod}(h:aL m=0):(dK m).length<=600:=by
 obtain⟨b1,b2,b3,b4,b5,b6,b7⟩:=uB h
 have h1:=Am b6 b3
 have h2:=Am b7 b4
 have h3:=Am (f:=gB) (K:=6) (N:=12) (l:=m.pa) (fun x _=>by rw[lK];exact GZ3 _) b5
 have h4:m.text.data.toList.length=m.text.size:=by rw[Array.length_toList];rfl
 unfold dK kG
 simp only[GZ8,digits_length,aT]
 omega
theorem kZ {c:Cm}(h:RL c=0):1<=(aG c).length/\(aG c).length<=800:=by
 obtain⟨_,_,h2,h3,h4⟩:=lT h
 have e:(tx c.nm).length=c.nm.size:=Array.length_toList
 have hn:(tx c.nm).length<=10:=by
  by_cases hk:c.kind=2
  ·have:=RZ (h3 hk);omega
  ·have:=h2 hk;omega
 unfold aG
 rw[GY8,GZ8]
 cases hh:nG c.kind
 ·simp;omega
 ·have:=Ca (h4 hh)
  simp;omega
theorem JL {c:Cm}(h:RL c=0):c.nm.size<=10:=by
 obtain⟨_,_,h2,h3,_⟩:=lT h
 by_cases hk:c.kind=2
 ·exact RZ (h3 hk)
 ·have:=h2 hk;omega
theorem Gw (k:Int)(m:Mod)(nm:ByteArray)(w:World)(h:m.ok w)(hc:RL ⟨k,m,nm⟩=0):
  Calls Tryz.prog 81 #[.agg #[.int .i64 k,.string m.name,.int .i64 m.major,.int .i64 m.minor,.string m.text,.slice m.eA m.ex.length m.eC,.slice m.iA m.im.length m.iC,.slice m.pA m.pa.length m.pC,.string nm]] w fun e w'=>e=.returned (.string (sof (aG ⟨k,m,nm⟩)))/\Below w.heap.size w w':=by
 obtain⟨w0,hw0⟩:=Nm (w.alloc (.cells #[.int .i64 k,.string m.name,.int .i64 m.major,.int .i64 m.minor,.string m.text,.slice m.eA m.ex.length m.eC,.slice m.iA m.im.length m.iC,.slice m.pA m.pa.length m.pC,.string nm] 102))
 have hw0':=hw0.symm
 obtain⟨p0,p1,p2,p3,p4,p5,p6,p7,p8⟩:=dJ (W:=w0) (b:=w.heap.size) (c:=⟨k,m,nm⟩) (by rw[hw0];exact heap_alloc_new w _)
 simp only at p0 p1 p2 p3 p4 p5 p6 p7 p8
 have H0:=Hp (show Below w.heap.size w w0 from hw0▸ZB)
 have hz0:w.heap.size<w0.heap.size:=by rw[hw0];simp
 obtain⟨hk,_,_,_,hM⟩:=lT hc
 have hnm:=JL hc
 simp only at hk hnm
 have hln:(tx nm).length=nm.size:=Array.length_toList
 have hlen:=(kZ hc).2
 have cH:=BB k
 have c4:=fun W(hb:Below w.heap.size w W)(hh:nG k=true)=>Jg m W (h.below hb) (hM hh)
 have hcv:=IB (P:=Tryz.prog) Tryz.underlying135 Tryz.underlying5 Tryz.underlying9
 obtain⟨S1,hS1⟩:∃S1:ByteArray,S1=sof (UInt8.ofNat k.toNat::tx nm):=⟨_,rfl⟩
 have a1:∀W,(Op.stringOp .add ⟨#[UInt8.ofNat k.toNat]⟩ nm).run Tryz.prog W=.ok (.string S1) W:=fA (by rw[hS1];rfl) (by rw[hS1];show(tx nm).length+1<=_;omega)
 obtain rfl|rfl|rfl|rfl:k=1\/k=2\/k=3\/k=4:=by omega
 ·have c1:Hid (∀W,Calls Tryz.prog 140 #[.int .i64 1] W fun e w'=>e=.returned (.bool true)/\Below W.heap.size W w'):=Hp (fun W=>cH W)
  have HA:=Hp (H0.alloc H0.size (.cells #[.int .u8 1] 5))
  have a1:∀W,(Op.stringOp .add ⟨#[1]⟩ nm).run Tryz.prog W=.ok (.string S1) W:=a1
  have C4:=Hp (fun W(hb:Below w.heap.size w W)=>c4 W hb rfl)
  obtain⟨S,hS⟩:∃S:ByteArray,S=sof (aG ⟨1,m,nm⟩):=⟨_,rfl⟩
  have a2:∀W,(Op.stringOp .add S1 ⟨(dK m).toArray⟩).run Tryz.prog W=.ok (.string S) W:=fA (by rw[hS1,hS];rfl) (by rw[hS];show(aG ⟨1,m,nm⟩).length<=_;omega)
  rw[<-hS]
  obtain⟨N,hN⟩:∃N:ByteArray,N=⟨(dK m).toArray⟩:=⟨_,rfl⟩
  rw[<-hN]at C4 a2
  clear hln cH c4 hk hnm hlen hM hc h hS hS1 hN hw0
  go_enter Tryz.func81,Tryz.ntmps81
  go_wp2_with fail
  refine(c1.out _).mono ?_;rintro e w1 ⟨rfl,hb1⟩
  have HB1:=Hp (HA.trans (hb1.mono HA.size))
  obtain⟨hc1,hf1⟩:=aJ hb1;clear hb1
  go_wp2_with fail
  refine(C4.out _ HB1.out).mono ?_;rintro e w2 ⟨rfl,hb2⟩
  go_wp2_with fail
  go_ret
  exact⟨rfl,HB1.trans (hb2.mono HB1.size)⟩
 ·have c1:Hid (∀W,Calls Tryz.prog 140 #[.int .i64 2] W fun e w'=>e=.returned (.bool false)/\Below W.heap.size W w'):=Hp (fun W=>cH W)
  have HA:=Hp (H0.alloc H0.size (.cells #[.int .u8 2] 5))
  have a1:∀W,(Op.stringOp .add ⟨#[2]⟩ nm).run Tryz.prog W=.ok (.string S1) W:=a1
  have hS:S1=sof (aG ⟨2,m,nm⟩):=by rw[hS1];show _=sof (_::(tx nm++[]));rw[List.append_nil]
  rw[<-hS]
  clear hln cH c4 hk hnm hlen hM hc h hS hS1 hw0
  go_enter Tryz.func81,Tryz.ntmps81
  go_wp2_with fail
  refine(c1.out _).mono ?_;rintro e w1 ⟨rfl,hb1⟩
  go_wp2_with fail
  go_ret
  exact⟨rfl,HA.trans (hb1.mono HA.size)⟩
 ·have c1:Hid (∀W,Calls Tryz.prog 140 #[.int .i64 3] W fun e w'=>e=.returned (.bool true)/\Below W.heap.size W w'):=Hp (fun W=>cH W)
  have HA:=Hp (H0.alloc H0.size (.cells #[.int .u8 3] 5))
  have a1:∀W,(Op.stringOp .add ⟨#[3]⟩ nm).run Tryz.prog W=.ok (.string S1) W:=a1
  have C4:=Hp (fun W(hb:Below w.heap.size w W)=>c4 W hb rfl)
  obtain⟨S,hS⟩:∃S:ByteArray,S=sof (aG ⟨3,m,nm⟩):=⟨_,rfl⟩
  have a2:∀W,(Op.stringOp .add S1 ⟨(dK m).toArray⟩).run Tryz.prog W=.ok (.string S) W:=fA (by rw[hS1,hS];rfl) (by rw[hS];show(aG ⟨3,m,nm⟩).length<=_;omega)
  rw[<-hS]
  obtain⟨N,hN⟩:∃N:ByteArray,N=⟨(dK m).toArray⟩:=⟨_,rfl⟩
  rw[<-hN]at C4 a2
  clear hln cH c4 hk hnm hlen hM hc h hS hS1 hN hw0
  go_enter Tryz.func81,Tryz.ntmps81
  go_wp2_with fail
  refine(c1.out _).mono ?_;rintro e w1 ⟨rfl,hb1⟩
  have HB1:=Hp (HA.trans (hb1.mono HA.size))
  obtain⟨hc1,hf1⟩:=aJ hb1;clear hb1
  go_wp2_with fail
  refine(C4.out _ HB1.out).mono ?_;rintro e w2 ⟨rfl,hb2⟩
  go_wp2_with fail
  go_ret
  exact⟨rfl,HB1.trans (hb2.mono HB1.size)⟩
 ·have c1:Hid (∀W,Calls Tryz.prog 140 #[.int .i64 4] W fun e w'=>e=.returned (.bool false)/\Below W.heap.size W w'):=Hp (fun W=>cH W)
  have HA:=Hp (H0.alloc H0.size (.cells #[.int .u8 4] 5))
  have a1:∀W,(Op.stringOp .add ⟨#[4]⟩ nm).run Tryz.prog W=.ok (.string S1) W:=a1
  have hS:S1=sof (aG ⟨4,m,nm⟩):=by rw[hS1];show _=sof (_::(tx nm++[]));rw[List.append_nil]
  rw[<-hS]
  clear hln cH c4 hk hnm hlen hM hc h hS hS1 hw0
  go_enter Tryz.func81,Tryz.ntmps81
  go_wp2_with fail
  refine(c1.out _).mono ?_;rintro e w1 ⟨rfl,hb1⟩
  go_wp2_with fail
  go_ret
  exact⟨rfl,HA.trans (hb1.mono HA.size)⟩
theorem BC (c:Cm)(w:World)(h:c.m.ok w)(hc:RL c=0):
  Calls Tryz.prog 81 #[c.v] w fun e w'=>e=.returned (.string (sof (aG c)))/\Below w.heap.size w w':=Gw c.kind c.m c.nm w h hc
theorem yD (c:Cm)(w:World)(h:c.m.ok w)(hn:c.nm.size<=big):
  Calls Tryz.prog 61 #[c.v] w fun e w'=>e=.returned (.tuple #[.string (if RL c≠0 then⟨#[]⟩else sof (aG c)),.int .i64 (RL c)])/\Below w.heap.size w w':=by
 obtain⟨w0,hw0⟩:=Nm (w.alloc (.cells #[.int .i64 c.kind,.string c.m.name,.int .i64 c.m.major,.int .i64 c.m.minor,.string c.m.text,.slice c.m.eA c.m.ex.length c.m.eC,.slice c.m.iA c.m.im.length c.m.iC,.slice c.m.pA c.m.pa.length c.m.pC,.string c.nm] 102))
 have hw0':=hw0.symm
 obtain⟨p0,p1,p2,p3,p4,p5,p6,p7,p8⟩:=dJ (W:=w0) (b:=w.heap.size) (c:=c) (by rw[hw0];exact heap_alloc_new w _)
 have H0:=Hp (show Below w.heap.size w w0 from hw0▸ZB)
 have hz0:w.heap.size<w0.heap.size:=by rw[hw0];simp
 have c1:=Hp (fun W(hb:Below w.heap.size w W)=>VB c W (h.below hb) hn)
 have c2:=Hp (fun W(hb:Below w.heap.size w W)(hc:RL c=0)=>BC c W (h.below hb) hc)
 generalize RL c=E at c1 c2 ⊢
 generalize sof (aG c)=S at c2 ⊢
 clear hw0 h hn
 by_cases t:E=0
 ·subst t
  rw[if_neg (by simp)]
  go_enter Tryz.func61,Tryz.ntmps61
  go_wp2_with fail
  refine(c1.out _ H0.out).mono ?_;rintro e w1 ⟨rfl,hb1⟩
  have HB1:=Hp (H0.trans (hb1.mono H0.size))
  obtain⟨hc1,hf1⟩:=aJ hb1;clear hb1
  go_wp2_with fail
  refine(c2.out _ HB1.out (by trivial)).mono ?_;rintro e w2 ⟨rfl,hb2⟩
  go_wp2_with fail
  go_ret2
  exact⟨rfl,HB1.trans (hb2.mono HB1.size)⟩
 ·have t':(E != 0)=true:=by simp[t]
  rw[if_pos t]
  clear t
  go_enter Tryz.func61,Tryz.ntmps61
  go_wp2_with fail
  refine(c1.out _ H0.out).mono ?_;rintro e w1 ⟨rfl,hb1⟩
  have HB1:=Hp (H0.trans (hb1.mono H0.size))
  go_wp2_with fail
  go_ret2
  exact⟨rfl,HB1.out⟩
end
end Go.Proofs.YtjiedaialianmaaGreat
