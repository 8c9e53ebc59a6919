import Derived.Test.YtjiedaialianmaaGreatA14
import Derived.Test.YtjiedaialianmaaGreatA24
import Derived.Test.YtjiedaialianmaaGreatCPlays03
import Derived.Test.YtjiedaialianmaaGreatCPlays04
set_option maxRecDepth 100000
set_option maxHeartbeats 8000000
namespace Go.Proofs.YtjiedaialianmaaGreat
section
open Go
open Gs (Tx)
theorem DT {first many:Int}(b:1<=many):∀{l:List Plc}{a:Int},bW a l->first<a->(dC a l).any (jU first many)=false
 | [],a,h,hf=>by
  unfold dC Rb
  split
  ·simp[jU];intro h;omega
  ·rfl
 |x::l,a,⟨h1,h2,h3,h4⟩,hf=>by
  have e:aR x=x.first+aH x.m:=rfl
  unfold dC
  rw[List.any_append,DT b h4 (by omega),Bool.or_false]
  unfold Rb
  split
  ·simp[jU];intro h;omega
  ·rfl
def fT (first many:Int)(x:Plc):Bool:=decide (first<x.first)&&decide (x.first<first+many)
theorem Fb {first many:Int}:∀{l:List Plc}{a:Int},bW a l->first+many<=a->l.any (fT first many)=false
 | [],_,_,_=>rfl
 |x::l,a,⟨h1,h2,h3,h4⟩,h=>by
  have e:aR x=x.first+aH x.m:=rfl
  rw[List.any_cons,Fb h4 (by omega),Bool.or_false]
  simp only[fT,Bool.and_eq_false_iff,decide_eq_false_iff_not]
  right;omega
theorem IV {first many:Int}(d:1<=many):∀{l:List Plc}{a:Int},bW a l->a<=first->(∀x∈l,aR x<=first\/first<x.first)->
  (dC a l).any (jU first many)=(decide (first+many<=16)&&!l.any (fT first many))
 | [],a,h,ha,_=>by
  have h:a<=16:=h
  unfold dC Rb
  split
  ·simp only[List.any_cons,List.any_nil,Bool.or_false,Bool.not_false,Bool.and_true,jU]
   rw[decide_eq_true ha,Bool.true_and]
   congr 1
   simp only[eq_iff_iff];omega
  ·simp only[List.any_nil,Bool.not_false,Bool.and_true]
   symm
   simp;omega
 |x::l,a,⟨h1,h2,h3,h4⟩,ha,hx=>by
  have e:aR x=x.first+aH x.m:=rfl
  have g:=h4.le
  unfold dC
  rw[List.any_append,List.any_cons]
  rcases hx x (by simp)with b|b
  ·rw[IV d h4 b (fun y f=>hx y (List.mem_cons_of_mem _ f))]
   have i:(Rb a x.first).any (jU first many)=false:=by
    unfold Rb
    split
    ·simp[jU];intro _;omega
    ·rfl
   have c:fT first many x=false:=by
    simp only[fT,Bool.and_eq_false_iff,decide_eq_false_iff_not]
    left;omega
   rw[i,c,Bool.false_or,Bool.false_or]
  ·rw[DT d h4 (by omega),Bool.or_false]
   unfold Rb
   rw[if_pos (by omega)]
   simp only[List.any_cons,List.any_nil,Bool.or_false,jU]
   rw[decide_eq_true ha,Bool.true_and]
   by_cases j:first+many<=x.first
   ·rw[Fb h4 (by omega),Bool.or_false]
    have c:fT first many x=false:=by
     simp only[fT,Bool.and_eq_false_iff,decide_eq_false_iff_not]
     right;omega
    rw[c,decide_eq_true (show first+many<=16 by omega)]
    simp;omega
   ·have c:fT first many x=true:=by
     simp only[fT,Bool.and_eq_true,decide_eq_true_eq]
     omega
    rw[c,Bool.true_or,Bool.not_true,Bool.and_false]
    simp;omega
theorem FB :∀{l:List Plc}{a:Int},bW a l->∀x∈l,a<=x.first
 |y::l,a,⟨g1,g2,g3,g4⟩,x,b=>by
  rcases List.mem_cons.1 b with rfl|b
  ·exact g1
  ·have:=FB g4 x b
   have e:aR y=y.first+aH y.m:=rfl
   omega
theorem Da :∀{l:List Plc}{a:Int}{j:Nat},bW a l->∀d:j<l.length,∀x∈l.eraseIdx j,aR x<=l[j].first\/aR l[j]<=x.first
 |y::l,a,0,⟨h1,h2,h3,h4⟩,_,x,b=>.inr (FB h4 x b)
 |y::l,a,j+1,⟨h1,h2,h3,h4⟩,d,x,b=>by
  have c:j<l.length:=by simpa using d
  rw[List.eraseIdx_cons_succ]at b
  rcases List.mem_cons.1 b with rfl|b
  ·left
   have:=FB h4 l[j] (GZ9 _)
   simpa using this
  ·simpa using Da h4 c x b
theorem free_at {l:List Plc}{c:ByteArray}{many:Int}{j:Nat}(i:1<=many)(d:bW 0 l)(h:idxOf (named c) l=j):
  (RI (Rc l c)).any (jU (dH l c) many)=(decide (dH l c+many<=16)&&!(l.eraseIdx j).any (fT (dH l c) many)):=by
 obtain⟨f,e⟩:=nK h
 unfold Rc
 rw[h,Int.toNat_natCast,e]
 refine IV i (d.erase j) (rU d _ (GZ9 f)).1 (fun x b=>?_)
 rcases Da d f x b with g|g
 ·exact .inl g
 ·refine .inr (Int.lt_of_lt_of_le ?_ g)
  have:∀{l:List Plc}{a:Int},bW a l->∀x∈l,1<=aH x.m:=by
   intro l
   induction l with
   |nil=>intro a _ x b;cases b
   |cons z l ih=>
    intro a ⟨p,n,o,k⟩ x b
    rcases List.mem_cons.1 b with rfl|b
    ·exact n
    ·exact ih k x b
  have:=this d l[j] (GZ9 f)
  show l[j].first<l[j].first+aH l[j].m
  omega
end
section
open Go
open Gs (Tx)
def Si (m:Mod):Bool:=decide (m.name.size=0)&&decide (m.major=0)&&decide (m.minor=0)&&decide (m.text.size=0)&&decide (m.ex.length+m.im.length+m.pa.length=0)
def nG (a:Int):Bool:=decide (a=1) || decide (a=3)
def RL (c:Cm):Int:=
 if c.kind<1\/4<c.kind then 7
 else if(nG c.kind=false/\Si c.m=false)\/(c.kind≠2/\c.nm.size≠0)\/(c.kind=2/\isName c.nm=false)then 1
 else if nG c.kind=true then aL c.m else 0
def aG (c:Cm):Tx:=UInt8.ofNat c.kind.toNat::(tx c.nm++if nG c.kind=true then dK c.m else[])
def jP :Cm:=⟨0,zeroMod,⟨#[]⟩⟩
def aS (l:Tx):Int×Cm:=match l with
 | []=>(1,jP)
 |b::r=>if nG b.toNat=true then(if dO r≠0 then(1,jP)else(0,⟨b.toNat,iD r,⟨#[]⟩⟩))
  else if RL ⟨b.toNat,zeroMod,sof r⟩≠0 then(1,jP)else(0,⟨b.toNat,zeroMod,sof r⟩)
theorem VX {a:Int}:nG a=true↔a=1\/a=3:=by simp[nG]
theorem lT {c:Cm}(h:RL c=0):(1<=c.kind/\c.kind<=4)/\(nG c.kind=false->Si c.m=true)/\(c.kind≠2->c.nm.size=0)/\(c.kind=2->isName c.nm=true)/\(nG c.kind=true->aL c.m=0):=by
 unfold RL at h
 by_cases d:c.kind<1\/4<c.kind
 ·rw[if_pos d]at h;omega
 ·rw[if_neg d]at h
  by_cases a:(nG c.kind=false/\Si c.m=false)\/(c.kind≠2/\c.nm.size≠0)\/(c.kind=2/\isName c.nm=false)
  ·rw[if_pos a]at h;omega
  ·rw[if_neg a]at h
   refine⟨by omega,fun e=>?_,fun e=>?_,fun e=>?_,fun e=>?_⟩
   ·cases b:Si c.m
    ·exact absurd (.inl ⟨e,b⟩) a
    ·rfl
   ·exact Classical.byContradiction fun f=>a (.inr (.inl ⟨e,f⟩))
   ·cases b:isName c.nm
    ·exact absurd (.inr (.inr ⟨e,b⟩)) a
    ·rfl
   ·rw[if_pos e]at h;exact h
theorem Gi {m:Mod}(h:Si m=true):m.bare=zeroMod:=by
 obtain⟨d,w,v,t,l,e,c,B,A,y,x,u,s⟩:=m
 simp only[Si,Bool.and_eq_true,decide_eq_true_eq]at h
 obtain⟨⟨⟨⟨k,j⟩,i⟩,g⟩,z⟩:=h
 have a:∀b:ByteArray,b.size=0->b=sof []:=fun b f=>by
  have:b.data=#[]:=Array.size_eq_zero_iff.1 f
  cases b;simp_all
 have r:=a d k
 have q:=a t g
 have p:l=[]:=GY9 (by omega)
 have o:e=[]:=GY9 (by omega)
 have n:c=[]:=GY9 (by omega)
 subst r q p o n j i
 rfl
theorem yJ (c:Cm):RL c.bare=RL c:=rfl
theorem Sr {c a:Cm}(h:c.bare=a.bare):RL c=RL a:=by rw[<-yJ c,h,yJ]
theorem Jl {k:Int}(b:1<=k)(a:k<=4):((UInt8.ofNat k.toNat).toNat:Int)=k:=by
 simp only[UInt8.toNat_ofNat'];omega
theorem GG {c:Cm}(h:RL c=0):(aS (aG c)).1=0/\(aS (aG c)).2.bare=c.bare:=by
 obtain⟨f,n,l,s,k⟩:=lT h
 have e:=Jl f.1 f.2
 obtain⟨a,m,b⟩:=c
 simp only at f n l s k e
 have o:a≠2->b=⟨#[]⟩:=fun q=>by
  have:=l q
  have:b.data=#[]:=Array.size_eq_zero_iff.1 this
  cases b;simp_all
 unfold aS aG
 simp only
 rw[e]
 cases i:nG a
 ·rw[if_neg (by simp)]
  simp only[Bool.false_eq_true,if_false,List.append_nil]
  have j:=Gi (n i)
  have r:sof (tx b)=b:=iJ b
  have u:RL ⟨a,zeroMod,b⟩=0:=by
   rw[<-h]
   have:(⟨a,m,b⟩:Cm).bare=(⟨a,zeroMod,b⟩:Cm).bare:=by unfold Cm.bare;simp only[j];rfl
   exact(Sr this).symm
  rw[r,if_neg (by omega)]
  exact⟨rfl,by unfold Cm.bare;simp only[j];rfl⟩
 ·rw[if_pos rfl]
  have d:a≠2:=by have:=VX.1 i;omega
  obtain rfl:=o d
  have t:=k i
  simp only[if_true]
  have p:tx (⟨#[]⟩:ByteArray)++dK m=dK m:=rfl
  rw[p]
  obtain⟨d1,d2⟩:=Iz t
  rw[if_neg (by omega)]
  refine⟨rfl,?_⟩
  generalize iD (dK m)=g at d2 ⊢
  exact congrArg (fun q=>(⟨a,q,⟨#[]⟩⟩:Cm)) (iL d2)
theorem uM {l:Tx}(h:(aS l).1=0):RL (aS l).2=0:=by
 unfold aS at h ⊢
 match l with
 | []=>cases h
 |b::r=>
  simp only at h ⊢
  by_cases c:nG b.toNat=true
  ·rw[if_pos c]at h ⊢
   by_cases a:dO r=0
   ·rw[if_neg (by omega)]
    have d:=VX.1 c
    unfold RL
    simp only
    rw[if_neg (by omega),if_neg,if_pos c]
    ·have e:iD r=pQ r:=by unfold iD;rw[if_neg (by omega)]
     rw[e]
     unfold dO at a
     split at a
     ·omega
     ·exact a
    ·rintro(⟨e,_⟩|⟨_,e⟩|⟨e,_⟩)
     ·rw[c]at e;cases e
     ·exact e rfl
     ·omega
   ·rw[if_pos a]at h;cases h
  ·rw[if_neg c]at h ⊢
   by_cases a:RL ⟨b.toNat,zeroMod,sof r⟩=0
   ·rw[if_neg (by omega)];exact a
   ·rw[if_pos a]at h;cases h
def doE (k:Krn)(l:List Plc)(c:Cm):Int:=if RL c≠0 then RL c else if c.kind=4 then 0 else kP k c l
def doL (k:Krn)(l:List Plc)(c:Cm):List Plc:=if doE k l c≠0 then l else if c.kind=4 then(bI 0 l).1 else cmL c l
theorem Tz {k f:Krn}{l d:List Plc}{c b:Cm}(h:k.bare=f.bare)(g:aD l=aD d)(a:c.bare=b.bare):doE k l c=doE f d b:=by
 have e:c.kind=b.kind:=by have:=congrArg Cm.kind a;exact this
 unfold doE
 rw[Sr a,e,VM h a g]
theorem Su {k k':Krn}{l f:List Plc}{c d:Cm}(g:k.bare=k'.bare)(a:aD l=aD f)(b:c.bare=d.bare):aD (doL k l c)=aD (doL k' f d):=by
 have e:c.kind=d.kind:=by have:=congrArg Cm.kind b;exact this
 unfold doL
 rw[Tz g a b,e]
 split
 ·exact a
 ·split
  ·exact(EG a 0).1
  ·exact zV b a
theorem OY {k:Krn}{l:List Plc}(c:Cm)(h:aZ k l=0):aZ k (doL k l c)=0:=by
 unfold doL
 by_cases a:doE k l c=0
 ·rw[if_neg (by omega)]
  by_cases b:c.kind=4
  ·rw[if_pos b]
   exact GV h Uj.symm (Fa (oL h).2.1)
  ·rw[if_neg b]
   unfold doE at a
   by_cases d:RL c=0
   ·rw[if_neg (by omega),if_neg b]at a
    exact(Px a).2
   ·rw[if_pos d]at a;exact absurd a d
 ·rw[if_pos a];exact h
def Rl (k:Krn):List Plc->List Cm->List Plc
 |l,[]=>l
 |l,c::r=>Rl k (doL k l c) r
def eD (k:Krn):List Plc->List Cm->List Int
 |_,[]=>[]
 |l,c::r=>doE k l c::eD k (doL k l c) r
theorem nM (k:Krn):∀(a b:List Cm)(l:List Plc),Rl k l (a++b)=Rl k (Rl k l a) b
 | [],_,_=>rfl
 |_::a,b,_=>nM k a b _
theorem qC (k:Krn):∀(a b:List Cm)(l:List Plc),eD k l (a++b)=eD k l a++eD k (Rl k l a) b
 | [],_,_=>rfl
 |c::a,b,l=>by show _::eD k _ (a++b)=_;rw[qC k a b];rfl
theorem lY (k:Krn):∀(a:List Cm)(l:List Plc),(eD k l a).length=a.length
 | [],_=>rfl
 |_::a,_=>by show _+1=_;rw[lY k a];rfl
theorem lG {k:Krn}:∀(a:List Cm){l:List Plc},aZ k l=0->aZ k (Rl k l a)=0
 | [],_,h=>h
 |c::a,_,h=>lG a (OY c h)
abbrev Ty (l:List Cm):List Cm:=l.map Cm.bare
theorem Bf {k k':Krn}(d:k.bare=k'.bare):∀{a a':List Cm}{l b:List Plc},aD l=aD b->Ty a=Ty a'->aD (Rl k l a)=aD (Rl k' b a')/\eD k l a=eD k' b a'
 | [],[],l,b,hl,_=>⟨hl,rfl⟩
 |c::a,c'::a',l,b,hl,hc=>by
  have e:c.bare=c'.bare:=(List.cons.inj hc).1
  have h:Ty a=Ty a':=(List.cons.inj hc).2
  obtain⟨g,f⟩:=Bf d (Su d hl e) h
  exact⟨g,by show _::_=_::_;rw[Tz d hl e,f]⟩
def gD :List Tx->List Cm
 | []=>[]
 |s::r=>if(aS s).1=0 then(aS s).2::gD r else gD r
theorem tJ :∀(a b:List Tx),gD (a++b)=gD a++gD b
 | [],_=>rfl
 |s::a,b=>by
  show(if(aS s).1=0 then(aS s).2::gD (a++b)else gD (a++b))=(if(aS s).1=0 then(aS s).2::gD a else gD a)++gD b
  rw[tJ a b]
  by_cases h:(aS s).1=0
  ·rw[if_pos h,if_pos h];rfl
  ·rw[if_neg h,if_neg h]
end
section
open Go.RowKit
theorem mW (b:ByteArray):(b.toList==[])=decide (b.size=0):=by
 rw[Lib.toList_data,Bool.eq_iff_iff]
 simp[<-ByteArray.size_data]
theorem BB (k:Int)(w:World):Calls Tryz.prog 140 #[.int .i64 k] w fun e f=>e=.returned (.bool (nG k))/\Below w.heap.size w f:=by
 obtain⟨V,a⟩:=Nm (nG k)
 have c:=Hp (GZ4 w.heap.size w)
 rw[<-a]
 have e:nG k=(k==1 || k==3):=rfl
 rw[e]at a
 cases b:(k==1)
 ·cases d:(k==3)
  ·rw[b,d]at a;subst a
   go_enter Tryz.func140,Tryz.ntmps140
   go_wp2_with fail
   go_ret
   exact⟨rfl,c.out⟩
  ·rw[b,d]at a;subst a
   go_enter Tryz.func140,Tryz.ntmps140
   go_wp2_with fail
   go_ret
   exact⟨rfl,c.out⟩
 ·rw[b]at a
  obtain rfl:V=true:=by rw[a];rfl
  clear a
  go_enter Tryz.func140,Tryz.ntmps140
  go_wp2_with fail
  go_ret
  exact⟨rfl,c.out⟩
theorem OM (m:Mod)(w:World)(u:m.ex.length<=big)(t:m.im.length<=big)(s:m.pa.length<=big):
  Calls Tryz.prog 203 #[m.v] w fun e r=>e=.returned (.bool (Si m))/\Below w.heap.size w r:=by
 obtain⟨x,b⟩:=Nm (w.alloc (.cells #[.string m.name,.int .i64 m.major,.int .i64 m.minor,.string m.text,.slice m.eA m.ex.length m.eC,.slice m.iA m.im.length m.iC,.slice m.pA m.pa.length m.pC] 70))
 obtain⟨F,E,D,C,B,A,z,y,h⟩:=wE b
 have k:=b.symm
 clear b
 have d:=Hp h
 obtain⟨V,a⟩:=Nm (Si m)
 rw[<-a]
 unfold Si at a
 unfold big at u t s
 have q:=mW m.name
 have n:=mW m.text
 have p:(m.major==0)=decide (m.major=0):=by rw[Bool.eq_iff_iff];simp
 have o:(m.minor==0)=decide (m.minor=0):=by rw[Bool.eq_iff_iff];simp
 obtain⟨L,l⟩:∃L:Int,L=(m.ex.length:Int)+m.im.length+m.pa.length:=⟨_,rfl⟩
 have i:(L==0)=decide (m.ex.length+m.im.length+m.pa.length=0):=by rw[Bool.eq_iff_iff,beq_iff_eq,decide_eq_true_iff];omega
 rw[l]at i
 rw[<-q,<-p,<-o,<-n,<-i]at a
 clear q p o n i l L
 cases c:(m.name.toList==[])
 ·rw[c]at a
  obtain rfl:V=false:=by rw[a];rfl
  clear a
  go_enter Tryz.func203,Tryz.ntmps203
  go_wp2_with fail
  go_ret
  exact⟨rfl,d.out⟩
 cases f:(m.major==0)
 ·rw[c,f]at a
  obtain rfl:V=false:=by rw[a];rfl
  clear a
  go_enter Tryz.func203,Tryz.ntmps203
  go_wp2_with fail
  go_ret
  exact⟨rfl,d.out⟩
 cases g:(m.minor==0)
 ·rw[c,f,g]at a
  obtain rfl:V=false:=by rw[a];rfl
  clear a
  go_enter Tryz.func203,Tryz.ntmps203
  go_wp2_with fail
  go_ret
  exact⟨rfl,d.out⟩
 cases j:(m.text.toList==[])
 ·rw[c,f,g,j]at a
  obtain rfl:V=false:=by rw[a];rfl
  clear a
  go_enter Tryz.func203,Tryz.ntmps203
  go_wp2_with fail
  go_ret
  exact⟨rfl,d.out⟩
 rw[c,f,g,j]at a
 obtain rfl:V=((m.ex.length:Int)+m.im.length+m.pa.length==0):=by rw[a];rfl
 clear a
 go_enter Tryz.func203,Tryz.ntmps203
 go_wp2_with fail
 go_ret
 exact⟨rfl,d.out⟩
def Cf (k:Int)(B Z I:Bool)(M:Int):Int:=
 if k<1\/4<k then 7 else if((!(nG k)&&!B) || (!(k==2)&&!Z) || ((k==2)&&!I))=true then 1 else if nG k=true then M else 0
theorem UR (k:Int)(m:Mod)(a:ByteArray):RL ⟨k,m,a⟩=Cf k (Si m) (a.toList==[]) (isName a) (aL m):=by
 unfold RL Cf
 rw[mW]
 by_cases b:k<1\/4<k
 ·rw[if_pos b,if_pos b]
 rw[if_neg b,if_neg b]
 simp only
 generalize nG k=H
 generalize Si m=B
 generalize isName a=I
 generalize a.size=z
 have:((H=false/\B=false)\/(k≠2/\z≠0)\/(k=2/\I=false))↔((!H&&!B) || (!(k==2)&&!(decide (z=0))) || ((k==2)&&!I))=true:=by
  by_cases t:k=2<;>by_cases u:z=0<;>cases H<;>cases B<;>cases I<;>simp[t,u]
 simp only[this]
theorem Td (k:Int)(m:Mod)(L:ByteArray)(w:World)(h:m.ok w)(V:L.size<=big):
  Calls Tryz.prog 139 #[.agg #[.int .i64 k,.string m.name,.int .i64 m.major,.int .i64 m.minor,.string m.text,.slice m.eA m.ex.length m.eC,.slice m.iA m.im.length m.iC,.slice m.pA m.pa.length m.pC,.string L]] w fun e F=>e=.returned (.int .i64 (RL ⟨k,m,L⟩))/\Below w.heap.size w F:=by
 obtain⟨P,A⟩:=Nm (w.alloc (.cells #[.int .i64 k,.string m.name,.int .i64 m.major,.int .i64 m.minor,.string m.text,.slice m.eA m.ex.length m.eC,.slice m.iA m.im.length m.iC,.slice m.pA m.pa.length m.pC,.string L] 102))
 have U:=A.symm
 obtain⟨p0,p1,p2,p3,p4,p5,p6,p7,p8⟩:=dJ (W:=P) (b:=w.heap.size) (c:=⟨k,m,L⟩) (by rw[A];exact heap_alloc_new w _)
 simp only at p0 p1 p2 p3 p4 p5 p6 p7 p8
 have o:=Hp (show Below w.heap.size w P from A▸ZB)
 have C:=BB k
 have N:=Hp (fun W=>OM m W h.ex.2.1 h.im.2.1 h.pa.2)
 have S:=Hp (fun W=>qY L W V)
 have R:=Hp (fun W(hb:Below w.heap.size w W)=>oM m W (h.below hb))
 rw[UR]
 generalize Si m=B at N ⊢
 generalize isName L=I at S ⊢
 generalize aL m=M at R ⊢
 obtain⟨Z,hZ⟩:∃Z,(L.toList==[])=Z:=⟨_,rfl⟩
 rw[hZ]
 obtain⟨E,n⟩:=Nm (Cf k B Z I M)
 rw[<-n]
 have p:w.heap.size<P.heap.size:=by rw[A];simp
 clear A h V
 by_cases K:k<1
 ·have Q:decide (k<1)=true:=by simp[K]
  clear C
  obtain rfl:E=7:=by rw[n];unfold Cf;rw[if_pos (.inl K)]
  clear n
  go_enter Tryz.func139,Tryz.ntmps139
  go_wp2_with fail
  go_ret
  exact⟨rfl,o.out⟩
 by_cases O:4<k
 ·have Q:decide (k<1)=false:=by simp[K]
  have Y:decide (4<k)=true:=by simp[O]
  clear K C
  obtain rfl:E=7:=by rw[n];unfold Cf;rw[if_pos (.inr O)]
  clear n
  go_enter Tryz.func139,Tryz.ntmps139
  go_wp2_with fail
  go_ret
  exact⟨rfl,o.out⟩
 obtain rfl|rfl|rfl|rfl:k=1\/k=2\/k=3\/k=4:=by omega
 ·have u:Hid (∀W,Calls Tryz.prog 140 #[.int .i64 1] W fun e F=>e=.returned (.bool true)/\Below W.heap.size W F):=Hp (fun W=>C W)
  clear C K O
  cases Z
  ·obtain rfl:E=1:=by rw[n];cases B<;>cases I<;>rfl
   clear n
   go_enter Tryz.func139,Tryz.ntmps139
   go_wp2_with fail
   refine(u.out _).mono ?_;rintro e r ⟨rfl,a⟩
   have f:=Hp (o.trans (a.mono o.size))
   have j:w.heap.size<r.heap.size:=GY0 p a.size
   obtain⟨t,s⟩:=aJ a;clear a
   go_wp2_with fail
   go_ret
   exact⟨rfl,f.out⟩
  ·obtain rfl:E=M:=by rw[n];cases B<;>cases I<;>rfl
   clear n
   go_enter Tryz.func139,Tryz.ntmps139
   go_wp2_with fail
   refine(u.out _).mono ?_;rintro e r ⟨rfl,a⟩
   have f:=Hp (o.trans (a.mono o.size))
   have j:w.heap.size<r.heap.size:=GY0 p a.size
   obtain⟨t,s⟩:=aJ a;clear a
   go_wp2_with fail
   refine(u.out _).mono ?_;rintro e v ⟨rfl,d⟩
   have i:=Hp (f.trans (d.mono f.size))
   have l:w.heap.size<v.heap.size:=GY0 j d.size
   obtain⟨y,x⟩:=aJ d;clear d
   go_wp2_with fail
   refine(R.out _ i.out).mono ?_;rintro e D ⟨rfl,g⟩
   have q:=Hp (i.trans (g.mono i.size))
   have z:w.heap.size<D.heap.size:=GY0 l g.size
   obtain⟨H,G⟩:=aJ g;clear g
   go_wp2_with fail
   go_ret
   exact⟨rfl,q.out⟩
 ·have u:Hid (∀W,Calls Tryz.prog 140 #[.int .i64 2] W fun e F=>e=.returned (.bool false)/\Below W.heap.size W F):=Hp (fun W=>C W)
  clear C K O
  cases B
  ·obtain rfl:E=1:=by rw[n];cases Z<;>cases I<;>rfl
   clear n
   go_enter Tryz.func139,Tryz.ntmps139
   go_wp2_with fail
   refine(u.out _).mono ?_;rintro e r ⟨rfl,a⟩
   have f:=Hp (o.trans (a.mono o.size))
   have j:w.heap.size<r.heap.size:=GY0 p a.size
   obtain⟨t,s⟩:=aJ a;clear a
   go_wp2_with fail
   refine(N.out _).mono ?_;rintro e v ⟨rfl,d⟩
   have i:=Hp (f.trans (d.mono f.size))
   have l:w.heap.size<v.heap.size:=GY0 j d.size
   obtain⟨y,x⟩:=aJ d;clear d
   go_wp2_with fail
   go_ret
   exact⟨rfl,i.out⟩
  cases I
  ·obtain rfl:E=1:=by rw[n];cases Z<;>rfl
   clear n
   go_enter Tryz.func139,Tryz.ntmps139
   go_wp2_with fail
   refine(u.out _).mono ?_;rintro e r ⟨rfl,a⟩
   have f:=Hp (o.trans (a.mono o.size))
   have j:w.heap.size<r.heap.size:=GY0 p a.size
   obtain⟨t,s⟩:=aJ a;clear a
   go_wp2_with fail
   refine(N.out _).mono ?_;rintro e v ⟨rfl,d⟩
   have i:=Hp (f.trans (d.mono f.size))
   have l:w.heap.size<v.heap.size:=GY0 j d.size
   obtain⟨y,x⟩:=aJ d;clear d
   go_wp2_with fail
   refine(S.out _).mono ?_;rintro e D ⟨rfl,g⟩
   have q:=Hp (i.trans (g.mono i.size))
   have z:w.heap.size<D.heap.size:=GY0 l g.size
   obtain⟨H,G⟩:=aJ g;clear g
   go_wp2_with fail
   go_ret
   exact⟨rfl,q.out⟩
  ·obtain rfl:E=0:=by rw[n];cases Z<;>rfl
   clear n
   go_enter Tryz.func139,Tryz.ntmps139
   go_wp2_with fail
   refine(u.out _).mono ?_;rintro e r ⟨rfl,a⟩
   have f:=Hp (o.trans (a.mono o.size))
   have j:w.heap.size<r.heap.size:=GY0 p a.size
   obtain⟨t,s⟩:=aJ a;clear a
   go_wp2_with fail
   refine(N.out _).mono ?_;rintro e v ⟨rfl,d⟩
   have i:=Hp (f.trans (d.mono f.size))
   have l:w.heap.size<v.heap.size:=GY0 j d.size
   obtain⟨y,x⟩:=aJ d;clear d
   go_wp2_with fail
   refine(S.out _).mono ?_;rintro e D ⟨rfl,g⟩
   have q:=Hp (i.trans (g.mono i.size))
   have z:w.heap.size<D.heap.size:=GY0 l g.size
   obtain⟨H,G⟩:=aJ g;clear g
   go_wp2_with fail
   refine(u.out _).mono ?_;rintro e X ⟨rfl,J⟩
   have T:=Hp (q.trans (J.mono q.size))
   have a0:w.heap.size<X.heap.size:=GY0 z J.size
   obtain⟨a2,a1⟩:=aJ J;clear J
   go_wp2_with fail
   go_ret
   exact⟨rfl,T.out⟩
 ·have u:Hid (∀W,Calls Tryz.prog 140 #[.int .i64 3] W fun e F=>e=.returned (.bool true)/\Below W.heap.size W F):=Hp (fun W=>C W)
  clear C K O
  cases Z
  ·obtain rfl:E=1:=by rw[n];cases B<;>cases I<;>rfl
   clear n
   go_enter Tryz.func139,Tryz.ntmps139
   go_wp2_with fail
   refine(u.out _).mono ?_;rintro e r ⟨rfl,a⟩
   have f:=Hp (o.trans (a.mono o.size))
   have j:w.heap.size<r.heap.size:=GY0 p a.size
   obtain⟨t,s⟩:=aJ a;clear a
   go_wp2_with fail
   go_ret
   exact⟨rfl,f.out⟩
  ·obtain rfl:E=M:=by rw[n];cases B<;>cases I<;>rfl
   clear n
   go_enter Tryz.func139,Tryz.ntmps139
   go_wp2_with fail
   refine(u.out _).mono ?_;rintro e r ⟨rfl,a⟩
   have f:=Hp (o.trans (a.mono o.size))
   have j:w.heap.size<r.heap.size:=GY0 p a.size
   obtain⟨t,s⟩:=aJ a;clear a
   go_wp2_with fail
   refine(u.out _).mono ?_;rintro e v ⟨rfl,d⟩
   have i:=Hp (f.trans (d.mono f.size))
   have l:w.heap.size<v.heap.size:=GY0 j d.size
   obtain⟨y,x⟩:=aJ d;clear d
   go_wp2_with fail
   refine(R.out _ i.out).mono ?_;rintro e D ⟨rfl,g⟩
   have q:=Hp (i.trans (g.mono i.size))
   have z:w.heap.size<D.heap.size:=GY0 l g.size
   obtain⟨H,G⟩:=aJ g;clear g
   go_wp2_with fail
   go_ret
   exact⟨rfl,q.out⟩
 ·have u:Hid (∀W,Calls Tryz.prog 140 #[.int .i64 4] W fun e F=>e=.returned (.bool false)/\Below W.heap.size W F):=Hp (fun W=>C W)
  clear C K O
  cases B
  ·obtain rfl:E=1:=by rw[n];cases Z<;>cases I<;>rfl
   clear n
   go_enter Tryz.func139,Tryz.ntmps139
   go_wp2_with fail
   refine(u.out _).mono ?_;rintro e r ⟨rfl,a⟩
   have f:=Hp (o.trans (a.mono o.size))
   have j:w.heap.size<r.heap.size:=GY0 p a.size
   obtain⟨t,s⟩:=aJ a;clear a
   go_wp2_with fail
   refine(N.out _).mono ?_;rintro e v ⟨rfl,d⟩
   have i:=Hp (f.trans (d.mono f.size))
   have l:w.heap.size<v.heap.size:=GY0 j d.size
   obtain⟨y,x⟩:=aJ d;clear d
   go_wp2_with fail
   go_ret
   exact⟨rfl,i.out⟩
  cases Z
  ·obtain rfl:E=1:=by rw[n];cases I<;>rfl
   clear n
   go_enter Tryz.func139,Tryz.ntmps139
   go_wp2_with fail
   refine(u.out _).mono ?_;rintro e r ⟨rfl,a⟩
   have f:=Hp (o.trans (a.mono o.size))
   have j:w.heap.size<r.heap.size:=GY0 p a.size
   obtain⟨t,s⟩:=aJ a;clear a
   go_wp2_with fail
   refine(N.out _).mono ?_;rintro e v ⟨rfl,d⟩
   have i:=Hp (f.trans (d.mono f.size))
   have l:w.heap.size<v.heap.size:=GY0 j d.size
   obtain⟨y,x⟩:=aJ d;clear d
   go_wp2_with fail
   go_ret
   exact⟨rfl,i.out⟩
  ·obtain rfl:E=0:=by rw[n];cases I<;>rfl
   clear n
   go_enter Tryz.func139,Tryz.ntmps139
   go_wp2_with fail
   refine(u.out _).mono ?_;rintro e r ⟨rfl,a⟩
   have f:=Hp (o.trans (a.mono o.size))
   have j:w.heap.size<r.heap.size:=GY0 p a.size
   obtain⟨t,s⟩:=aJ a;clear a
   go_wp2_with fail
   refine(N.out _).mono ?_;rintro e v ⟨rfl,d⟩
   have i:=Hp (f.trans (d.mono f.size))
   have l:w.heap.size<v.heap.size:=GY0 j d.size
   obtain⟨y,x⟩:=aJ d;clear d
   go_wp2_with fail
   refine(u.out _).mono ?_;rintro e D ⟨rfl,g⟩
   have q:=Hp (i.trans (g.mono i.size))
   have z:w.heap.size<D.heap.size:=GY0 l g.size
   obtain⟨H,G⟩:=aJ g;clear g
   go_wp2_with fail
   go_ret
   exact⟨rfl,q.out⟩
theorem VB (c:Cm)(w:World)(h:c.m.ok w)(b:c.nm.size<=big):
  Calls Tryz.prog 139 #[c.v] w fun e a=>e=.returned (.int .i64 (RL c))/\Below w.heap.size w a:=Td c.kind c.m c.nm w h b
end
section
open Go
open Go.RowKit
open Gs (Tx)
theorem Am {α:Type}{f:α->List UInt8}{K N:Nat}{l:List α}(h:∀x∈l,(f x).length<=K)(a:l.length<=N):(l.flatMap f).length<=N*K:=
 GY1 (kF h) (Nat.mul_le_mul_right K a)
theorem Ca {m:Mod}(h:aL m=0):(dK m).length<=600:=by
 obtain⟨o,n,e,d,c,b,a⟩:=uB h
 have k:=Am b e
 have j:=Am a d
 have i:=Am (f:=gB) (K:=6) (N:=12) (l:=m.pa) (fun x _=>by rw[lK];exact GZ3 _) c
 have g:m.text.data.toList.length=m.text.size:=by rw[Array.length_toList];rfl
 unfold dK kG
 simp only[GZ8,digits_length,aT]
 omega
theorem kZ {c:Cm}(h:RL c=0):1<=(aG c).length/\(aG c).length<=800:=by
 obtain⟨_,_,g,f,d⟩:=lT h
 have e:(tx c.nm).length=c.nm.size:=Array.length_toList
 have i:(tx c.nm).length<=10:=by
  by_cases a:c.kind=2
  ·have:=RZ (f a);omega
  ·have:=g a;omega
 unfold aG
 rw[GY8,GZ8]
 cases b:nG c.kind
 ·simp;omega
 ·have:=Ca (d b)
  simp;omega
theorem JL {c:Cm}(h:RL c=0):c.nm.size<=10:=by
 obtain⟨_,_,d,b,_⟩:=lT h
 by_cases a:c.kind=2
 ·exact RZ (b a)
 ·have:=d a;omega
theorem Gw (k:Int)(m:Mod)(d:ByteArray)(w:World)(h:m.ok w)(v:RL ⟨k,m,d⟩=0):
  Calls Tryz.prog 81 #[.agg #[.int .i64 k,.string m.name,.int .i64 m.major,.int .i64 m.minor,.string m.text,.slice m.eA m.ex.length m.eC,.slice m.iA m.im.length m.iC,.slice m.pA m.pa.length m.pC,.string d]] w fun e q=>e=.returned (.string (sof (aG ⟨k,m,d⟩)))/\Below w.heap.size w q:=by
 obtain⟨G,g⟩:=Nm (w.alloc (.cells #[.int .i64 k,.string m.name,.int .i64 m.major,.int .i64 m.minor,.string m.text,.slice m.eA m.ex.length m.eC,.slice m.iA m.im.length m.iC,.slice m.pA m.pa.length m.pC,.string d] 102))
 have K:=g.symm
 obtain⟨Y,X,V,U,T,R,Q,O,M⟩:=dJ (W:=G) (b:=w.heap.size) (c:=⟨k,m,d⟩) (by rw[g];exact heap_alloc_new w _)
 simp only at Y X V U T R Q O M
 have u:=Hp (show Below w.heap.size w G from g▸ZB)
 have Z:w.heap.size<G.heap.size:=by rw[g];simp
 obtain⟨A,_,_,_,D⟩:=lT v
 have n:=JL v
 simp only at A n
 have r:(tx d).length=d.size:=Array.length_toList
 have l:=(kZ v).2
 have s:=BB k
 have z:=fun W(B:Below w.heap.size w W)(hh:nG k=true)=>Jg m W (h.below B) (D hh)
 have a0:=IB (P:=Tryz.prog) Tryz.underlying135 Tryz.underlying5 Tryz.underlying9
 obtain⟨o,f⟩:∃o:ByteArray,o=sof (UInt8.ofNat k.toNat::tx d):=⟨_,rfl⟩
 have t:∀W,(Op.stringOp .add ⟨#[UInt8.ofNat k.toNat]⟩ d).run Tryz.prog W=.ok (.string o) W:=fA (by rw[f];rfl) (by rw[f];show(tx d).length+1<=_;omega)
 obtain rfl|rfl|rfl|rfl:k=1\/k=2\/k=3\/k=4:=by omega
 ·have y:Hid (∀W,Calls Tryz.prog 140 #[.int .i64 1] W fun e q=>e=.returned (.bool true)/\Below W.heap.size W q):=Hp (fun W=>s W)
  have p:=Hp (u.alloc u.size (.cells #[.int .u8 1] 5))
  have t:∀W,(Op.stringOp .add ⟨#[1]⟩ d).run Tryz.prog W=.ok (.string o) W:=t
  have E:=Hp (fun W(B:Below w.heap.size w W)=>z W B rfl)
  obtain⟨S,i⟩:∃S:ByteArray,S=sof (aG ⟨1,m,d⟩):=⟨_,rfl⟩
  have J:∀W,(Op.stringOp .add o ⟨(dK m).toArray⟩).run Tryz.prog W=.ok (.string S) W:=fA (by rw[f,i];rfl) (by rw[i];show(aG ⟨1,m,d⟩).length<=_;omega)
  rw[<-i]
  obtain⟨N,C⟩:∃N:ByteArray,N=⟨(dK m).toArray⟩:=⟨_,rfl⟩
  rw[<-C]at E J
  clear r s z A n l D v h i f C g
  go_enter Tryz.func81,Tryz.ntmps81
  go_wp2_with fail
  refine(y.out _).mono ?_;rintro e F ⟨rfl,a⟩
  have j:=Hp (p.trans (a.mono p.size))
  obtain⟨I,H⟩:=aJ a;clear a
  go_wp2_with fail
  refine(E.out _ j.out).mono ?_;rintro e L ⟨rfl,x⟩
  go_wp2_with fail
  go_ret
  exact⟨rfl,j.trans (x.mono j.size)⟩
 ·have y:Hid (∀W,Calls Tryz.prog 140 #[.int .i64 2] W fun e q=>e=.returned (.bool false)/\Below W.heap.size W q):=Hp (fun W=>s W)
  have p:=Hp (u.alloc u.size (.cells #[.int .u8 2] 5))
  have t:∀W,(Op.stringOp .add ⟨#[2]⟩ d).run Tryz.prog W=.ok (.string o) W:=t
  have i:o=sof (aG ⟨2,m,d⟩):=by rw[f];show _=sof (_::(tx d++[]));rw[List.append_nil]
  rw[<-i]
  clear r s z A n l D v h i f g
  go_enter Tryz.func81,Tryz.ntmps81
  go_wp2_with fail
  refine(y.out _).mono ?_;rintro e F ⟨rfl,a⟩
  go_wp2_with fail
  go_ret
  exact⟨rfl,p.trans (a.mono p.size)⟩
 ·have y:Hid (∀W,Calls Tryz.prog 140 #[.int .i64 3] W fun e q=>e=.returned (.bool true)/\Below W.heap.size W q):=Hp (fun W=>s W)
  have p:=Hp (u.alloc u.size (.cells #[.int .u8 3] 5))
  have t:∀W,(Op.stringOp .add ⟨#[3]⟩ d).run Tryz.prog W=.ok (.string o) W:=t
  have E:=Hp (fun W(B:Below w.heap.size w W)=>z W B rfl)
  obtain⟨S,i⟩:∃S:ByteArray,S=sof (aG ⟨3,m,d⟩):=⟨_,rfl⟩
  have J:∀W,(Op.stringOp .add o ⟨(dK m).toArray⟩).run Tryz.prog W=.ok (.string S) W:=fA (by rw[f,i];rfl) (by rw[i];show(aG ⟨3,m,d⟩).length<=_;omega)
  rw[<-i]
  obtain⟨N,C⟩:∃N:ByteArray,N=⟨(dK m).toArray⟩:=⟨_,rfl⟩
  rw[<-C]at E J
  clear r s z A n l D v h i f C g
  go_enter Tryz.func81,Tryz.ntmps81
  go_wp2_with fail
  refine(y.out _).mono ?_;rintro e F ⟨rfl,a⟩
  have j:=Hp (p.trans (a.mono p.size))
  obtain⟨I,H⟩:=aJ a;clear a
  go_wp2_with fail
  refine(E.out _ j.out).mono ?_;rintro e L ⟨rfl,x⟩
  go_wp2_with fail
  go_ret
  exact⟨rfl,j.trans (x.mono j.size)⟩
 ·have y:Hid (∀W,Calls Tryz.prog 140 #[.int .i64 4] W fun e q=>e=.returned (.bool false)/\Below W.heap.size W q):=Hp (fun W=>s W)
  have p:=Hp (u.alloc u.size (.cells #[.int .u8 4] 5))
  have t:∀W,(Op.stringOp .add ⟨#[4]⟩ d).run Tryz.prog W=.ok (.string o) W:=t
  have i:o=sof (aG ⟨4,m,d⟩):=by rw[f];show _=sof (_::(tx d++[]));rw[List.append_nil]
  rw[<-i]
  clear r s z A n l D v h i f g
  go_enter Tryz.func81,Tryz.ntmps81
  go_wp2_with fail
  refine(y.out _).mono ?_;rintro e F ⟨rfl,a⟩
  go_wp2_with fail
  go_ret
  exact⟨rfl,p.trans (a.mono p.size)⟩
theorem BC (c:Cm)(w:World)(h:c.m.ok w)(b:RL c=0):
  Calls Tryz.prog 81 #[c.v] w fun e a=>e=.returned (.string (sof (aG c)))/\Below w.heap.size w a:=Gw c.kind c.m c.nm w h b
theorem yD (c:Cm)(w:World)(h:c.m.ok w)(p:c.nm.size<=big):
  Calls Tryz.prog 61 #[c.v] w fun e r=>e=.returned (.tuple #[.string (if RL c≠0 then⟨#[]⟩else sof (aG c)),.int .i64 (RL c)])/\Below w.heap.size w r:=by
 obtain⟨i,a⟩:=Nm (w.alloc (.cells #[.int .i64 c.kind,.string c.m.name,.int .i64 c.m.major,.int .i64 c.m.minor,.string c.m.text,.slice c.m.eA c.m.ex.length c.m.eC,.slice c.m.iA c.m.im.length c.m.iC,.slice c.m.pA c.m.pa.length c.m.pC,.string c.nm] 102))
 have o:=a.symm
 obtain⟨K,J,I,H,G,F,D,C,B⟩:=dJ (W:=i) (b:=w.heap.size) (c:=c) (by rw[a];exact heap_alloc_new w _)
 have g:=Hp (show Below w.heap.size w i from a▸ZB)
 have s:w.heap.size<i.heap.size:=by rw[a];simp
 have n:=Hp (fun W(k:Below w.heap.size w W)=>VB c W (h.below k) p)
 have l:=Hp (fun W(k:Below w.heap.size w W)(y:RL c=0)=>BC c W (h.below k) y)
 generalize RL c=E at n l ⊢
 generalize sof (aG c)=S at l ⊢
 clear a h p
 by_cases t:E=0
 ·subst t
  rw[if_neg (by simp)]
  go_enter Tryz.func61,Tryz.ntmps61
  go_wp2_with fail
  refine(n.out _ g.out).mono ?_;rintro e q ⟨rfl,d⟩
  have f:=Hp (g.trans (d.mono g.size))
  obtain⟨x,u⟩:=aJ d;clear d
  go_wp2_with fail
  refine(l.out _ f.out (by trivial)).mono ?_;rintro e z ⟨rfl,j⟩
  go_wp2_with fail
  go_ret2
  exact⟨rfl,f.trans (j.mono f.size)⟩
 ·have A:(E != 0)=true:=by simp[t]
  rw[if_pos t]
  clear t
  go_enter Tryz.func61,Tryz.ntmps61
  go_wp2_with fail
  refine(n.out _ g.out).mono ?_;rintro e q ⟨rfl,d⟩
  have f:=Hp (g.trans (d.mono g.size))
  go_wp2_with fail
  go_ret2
  exact⟨rfl,f.out⟩
end
section
open Go
open Go.RowKit
open Gs (Tx)
theorem Tryz.iK :(Tryz.prog.info? 102).map (·.size)=some 9:=by kernel_rfl
theorem Rv {W:World}{b:Nat}{k j i g f e d c a:Value}{t:TypeId}(h:W.heap[b]? =some (.cells #[k,j,i,g,f,e,d,c,a] t (0,0))):
  (W.cell? ⟨b,0,none⟩=some k/\W.cell? ⟨b,1,none⟩=some j/\W.cell? ⟨b,2,none⟩=some i/\W.cell? ⟨b,3,none⟩=some g/\W.cell? ⟨b,4,none⟩=some f/\W.cell? ⟨b,5,none⟩=some e/\W.cell? ⟨b,6,none⟩=some d/\W.cell? ⟨b,7,none⟩=some c/\W.cell? ⟨b,8,none⟩=some a)/\(W.frozen? ⟨b,0,none⟩=false/\W.frozen? ⟨b,1,none⟩=false/\W.frozen? ⟨b,2,none⟩=false/\W.frozen? ⟨b,3,none⟩=false/\W.frozen? ⟨b,4,none⟩=false/\W.frozen? ⟨b,5,none⟩=false/\W.frozen? ⟨b,6,none⟩=false/\W.frozen? ⟨b,7,none⟩=false/\W.frozen? ⟨b,8,none⟩=false):=
 ⟨⟨heap_cell h 0,heap_cell h 1,heap_cell h 2,heap_cell h 3,heap_cell h 4,heap_cell h 5,heap_cell h 6,heap_cell h 7,heap_cell h 8⟩,heap_free h 0,heap_free h 1,heap_free h 2,heap_free h 3,heap_free h 4,heap_free h 5,heap_free h 6,heap_free h 7,heap_free h 8⟩
theorem dS {W:World}{b:Nat}{c:Array Value}{t:TypeId}(o:Nat)(v:Value)(a:Array Value)(h:W.heap[b]? =some (.cells c t (0,0)))(e:c.setIfInBounds o v=a):(W.setCell ⟨b,o,none⟩ v).heap[b]? =some (.cells a t (0,0)):=e▸heap_setCell_same W b o _ _ v h
theorem Qq {W:World}{b:Nat}{e C s q p o m k i:Value}{t:TypeId}(h:W.heap[b]? =some (.cells #[e,C,s,q,p,o,m,k,i] t (0,0)))(a c d f g j l n:Value):
  ∃r,r=(((((((W.setCell ⟨b,1,none⟩ a).setCell ⟨b,2,none⟩ c).setCell ⟨b,3,none⟩ d).setCell ⟨b,4,none⟩ f).setCell ⟨b,5,none⟩ g).setCell ⟨b,6,none⟩ j).setCell ⟨b,7,none⟩ l).setCell ⟨b,8,none⟩ n/\
   r.heap[b]? =some (.cells #[e,a,c,d,f,g,j,l,n] t (0,0))/\Only b W r:=by
 have B:=dS 1 a #[e,a,s,q,p,o,m,k,i] h rfl
 have A:=dS 2 c #[e,a,c,q,p,o,m,k,i] B rfl
 have z:=dS 3 d #[e,a,c,d,p,o,m,k,i] A rfl
 have y:=dS 4 f #[e,a,c,d,f,o,m,k,i] z rfl
 have x:=dS 5 g #[e,a,c,d,f,g,m,k,i] y rfl
 have w:=dS 6 j #[e,a,c,d,f,g,j,k,i] x rfl
 have v:=dS 7 l #[e,a,c,d,f,g,j,l,i] w rfl
 have u:=dS 8 n #[e,a,c,d,f,g,j,l,n] v rfl
 exact⟨_,rfl,u,(((((((Only.set 1 a).trans (Only.set 2 c)).trans (Only.set 3 d)).trans (Only.set 4 f)).trans (Only.set 5 g)).trans (Only.set 6 j)).trans (Only.set 7 l)).trans (Only.set 8 n)⟩
theorem rD (l:List UInt8):l.length=(sof l).size:=by show _=l.toArray.size;simp
theorem Tp (b:UInt8)(r:List UInt8):((sof (b::r)).toList==[])=false:=by
 rw[mW];simp[ByteArray.size]
theorem nQ (l:List UInt8)(w:World)(hl:l.length<=big):
  Calls Tryz.prog 62 #[.string (sof l)] w fun e w'=>(∃m:Mod,e=.returned (.tuple #[(⟨(aS l).2.kind,m,(aS l).2.nm⟩:Cm).v,.int .i64 (aS l).1])/\m.ok w'/\m.own w' w.heap.size/\gI m (aS l).2.m)/\Below w.heap.size w w':=by
 cases l with
 |nil=>
  go_enter Tryz.func62,Tryz.ntmps62
  go_wp2_with fail
  have z:=heap_alloc_new w (.cells #[.int .i64 0,.string ⟨#[]⟩,.int .i64 0,.int .i64 0,.string ⟨#[]⟩,.slice none 0 0,.slice none 0 0,.slice none 0 0,.string ⟨#[]⟩] 102)
  refine bodyPost_ret (results_cell_tmp rfl _ _ w.heap.size 102 _ (0,0) _ rfl z Tryz.underlying102 rfl Tryz.iK) rfl ?_
  exact⟨⟨zeroMod,rfl,zero_ok _,dW _ _,⟨rfl,rfl,rfl,rfl,rfl,rfl,rfl⟩⟩,ZB⟩
 |cons b r=>
  have e0:=Tp b r
  obtain⟨K,hK⟩:∃K:Int,K=(b.toNat:Int):=⟨_,rfl⟩
  have e1:∀h,((sof (b::r))[0]'h)=b:=fun _=>rfl
  have e2:wrap64 (b.toNat:Int)=K:=by rw[hK];have:=b.toNat_lt;unfold wrap64;omega
  have e3:(sof (b::r)).extract 1 (r.length+1)=sof r:=ba_eq (by simp[ByteArray.data_extract])
  have c1:=Hp (BB K)
  have HK:=Hp hK
  obtain⟨J,Q⟩:∃J,J=(w.alloc (.cells #[.int .i64 0,.string ⟨#[]⟩,.int .i64 0,.int .i64 0,.string ⟨#[]⟩,.slice none 0 0,.slice none 0 0,.slice none 0 0,.string ⟨#[]⟩] 102)).alloc (.cells #[.int .i64 K,.string ⟨#[]⟩,.int .i64 0,.int .i64 0,.string ⟨#[]⟩,.slice none 0 0,.slice none 0 0,.slice none 0 0,.string ⟨#[]⟩] 102):=⟨_,rfl⟩
  have f:=Hp Q.symm
  clear hK Q
  go_enter Tryz.func62,Tryz.ntmps62
  go_wp2_with fail
  rw[f.out]
  refine(c1.out _).mono ?_;rintro e O ⟨rfl,A⟩
  have z0:J.heap.size=w.heap.size+2:=by rw[<-f.out];simp
  have M:=Hp (show Below w.heap.size w J from f.out▸((ZB).alloc (by simp) _))
  have R:J.heap[w.heap.size]? =some (.cells #[.int .i64 0,.string ⟨#[]⟩,.int .i64 0,.int .i64 0,.string ⟨#[]⟩,.slice none 0 0,.slice none 0 0,.slice none 0 0,.string ⟨#[]⟩] 102 (0,0)):=by rw[<-f.out,heap_alloc_old _ _ (by simp)];exact heap_alloc_new w _
  have T:J.heap[w.heap.size+1]? =some (.cells #[.int .i64 K,.string ⟨#[]⟩,.int .i64 0,.int .i64 0,.string ⟨#[]⟩,.slice none 0 0,.slice none 0 0,.slice none 0 0,.string ⟨#[]⟩] 102 (0,0)):=by rw[<-f.out];have:=heap_alloc_new (w.alloc (.cells #[.int .i64 0,.string ⟨#[]⟩,.int .i64 0,.int .i64 0,.string ⟨#[]⟩,.slice none 0 0,.slice none 0 0,.slice none 0 0,.string ⟨#[]⟩] 102)) (.cells #[.int .i64 K,.string ⟨#[]⟩,.int .i64 0,.int .i64 0,.string ⟨#[]⟩,.slice none 0 0,.slice none 0 0,.slice none 0 0,.string ⟨#[]⟩] 102);simpa using this
  have Z:=Hp ((A.block w.heap.size (by omega)).trans R)
  have o:=Hp ((A.block (w.heap.size+1) (by omega)).trans T)
  have u:=Hp (M.trans (A.mono M.size))
  clear A R T z0 M f c1
  clear J
  cases t:nG K
  ·obtain⟨⟨q0,q1,q2,q3,q4,q5,q6,q7,q8⟩,f0,f1,f2,f3,f4,f5,f6,f7,f8⟩:=Rv o.out
   have N:=Hp (fun W=>Td K zeroMod (sof r) W (zero_ok W) (by rw[<-rD];simp only[GY8]at hl;omega))
   have L:Only (w.heap.size+1) O (O.setCell ⟨w.heap.size+1,8,none⟩ (.string (sof r))):=Only.set 8 _
   have S:=heap_setCell_same O (w.heap.size+1) 8 _ _ (.string (sof r)) o.out
   have a:=Hp (show aS (b::r)=if RL ⟨K,zeroMod,sof r⟩≠0 then(1,jP)else(0,⟨K,zeroMod,sof r⟩) by rw[HK.out]at t ⊢;unfold aS;simp only[t];rfl)
   obtain⟨E,X⟩:=Nm (RL ⟨K,zeroMod,sof r⟩)
   rw[<-X]at N a
   clear X
   go_wp2_with fail
   have a5:w.heap.size+1<O.heap.size:=(ZL o.out)
   have a7:=Hp ((L.block w.heap.size (by omega) (by omega)).trans Z.out)
   have a4:=Hp (u.trans ((L.below (by omega)).mono (by omega)))
   have a9:=Hp S
   generalize O.setCell ⟨w.heap.size+1,8,none⟩ (.string (sof r))=F at*
   refine(N.out F).mono ?_;rintro e w3 ⟨rfl,d⟩
   have c:=Hp (aF d a7)
   have q:=Hp (a4.trans (d.mono a4.size))
   obtain⟨⟨q0,q1,q2,q3,q4,q5,q6,q7,q8⟩,_⟩:=Rv (show w3.heap[w.heap.size+1]? =some (.cells #[.int .i64 K,.string ⟨#[]⟩,.int .i64 0,.int .i64 0,.string ⟨#[]⟩,.slice none 0 0,.slice none 0 0,.slice none 0 0,.string (sof r)] 102 (0,0)) from aF d a9.out)
   obtain⟨⟨r0,r1,r2,r3,r4,r5,r6,r7,r8⟩,f0,f1,f2,f3,f4,f5,f6,f7,f8⟩:=Rv c.out
   clear d S L a5
   by_cases s:E=0
   ·subst s
    go_wp2_with fail
    obtain⟨z,G⟩:=Uq c.out (.int .i64 K) (.string ⟨#[]⟩) (.int .i64 0) (.int .i64 0) (.string ⟨#[]⟩) (.slice none 0 0) (.slice none 0 0) (.slice none 0 0) (.string (sof r))
    refine bodyPost_ret (results_cell_tmp rfl _ _ w.heap.size 102 _ (0,0) _ rfl z Tryz.underlying102 rfl Tryz.iK) rfl ?_
    rw[a.out]
    exact⟨⟨zeroMod,rfl,zero_ok _,dW _ _,⟨rfl,rfl,rfl,rfl,rfl,rfl,rfl⟩⟩,q.trans (G.below (GY2 (ZL c.out)))⟩
   ·have s':(E != 0)=true:=by simp[s]
    have p:=Hp (show aS (b::r)=(1,jP) by rw[a.out,if_pos s])
    clear s a
    go_wp2_with fail
    obtain⟨z,G⟩:=Uq c.out (.int .i64 0) (.string ⟨#[]⟩) (.int .i64 0) (.int .i64 0) (.string ⟨#[]⟩) (.slice none 0 0) (.slice none 0 0) (.slice none 0 0) (.string ⟨#[]⟩)
    refine bodyPost_ret (results_cell_tmp rfl _ _ w.heap.size 102 _ (0,0) _ rfl z Tryz.underlying102 rfl Tryz.iK) rfl ?_
    rw[p.out]
    exact⟨⟨zeroMod,rfl,zero_ok _,dW _ _,⟨rfl,rfl,rfl,rfl,rfl,rfl,rfl⟩⟩,q.trans (G.below (GY2 (ZL c.out)))⟩
  ·have cd:=Hp (fun W=>Ig r W (by simp only[GY8]at hl;omega))
   have a:=Hp (show aS (b::r)=if dO r≠0 then(1,jP)else(0,⟨K,iD r,⟨#[]⟩⟩) by rw[HK.out]at t ⊢;unfold aS;simp only[t];rfl)
   have j:=Hp (fun h=>uM (l:=b::r) h)
   rw[a.out]at j
   obtain⟨E,X⟩:=Nm (dO r)
   rw[<-X]at cd a j
   obtain⟨D,hD⟩:=Nm (iD r)
   rw[<-hD]at cd a j
   clear X hD
   go_wp2_with fail
   refine(cd.out _).mono ?_;rintro e F ⟨⟨m,rfl,U,g,k⟩,i⟩
   obtain⟨w3,x⟩:=Nm (F.alloc (.cells #[.string m.name,.int .i64 m.major,.int .i64 m.minor,.string m.text,.slice m.eA m.ex.length m.eC,.slice m.iA m.im.length m.iC,.slice m.pA m.pa.length m.pC] 70))
   have d:Below F.heap.size F w3:=x▸ZB
   obtain⟨m0,m1,m2,m3,m4,m5,m6⟩:=RF (show w3.heap[F.heap.size]? =_ by rw[x];exact heap_alloc_new F _)
   have c:=Hp (aF d (aF i Z))
   have C:=Hp (aF d (aF i o))
   have q:=Hp (u.trans ((i.mono u.size).trans (d.mono (GY1 u.size i.size))))
   have a1:=Hp ((g.below d).le u.size)
   have I:=Hp U
   have Y:=Hp k
   have b1:w.heap.size+1<F.heap.size:=GY0 (ZL o.out) i.size
   obtain⟨⟨r0,r1,r2,r3,r4,r5,r6,r7,r8⟩,f0,f1,f2,f3,f4,f5,f6,f7,f8⟩:=Rv c.out
   obtain⟨⟨q0,q1,q2,q3,q4,q5,q6,q7,q8⟩,g0,g1,g2,g3,g4,g5,g6,g7,g8⟩:=Rv C.out
   have P:=x.symm
   clear x i d U g k cd
   by_cases s:E=0
   ·subst s
    have p:=Hp (show aS (b::r)=(0,⟨K,D,⟨#[]⟩⟩) by rw[a.out,if_neg (by decide)])
    have HO:=Hp (show RL ⟨K,m,⟨#[]⟩⟩=0 by
     have h:=j.out
     rw[if_neg (by decide)]at h
     rw[<-h rfl]
     exact Sr (show Cm.bare _=Cm.bare _ by unfold Cm.bare;simp only[iL Y.out]))
    clear a j
    go_upto_region 11 with fail
    obtain⟨w4,e4,h4,y⟩:=Qq C.out (.string m.name) (.int .i64 m.major) (.int .i64 m.minor) (.string m.text) (.slice m.eA m.ex.length m.eC) (.slice m.iA m.im.length m.iC) (.slice m.pA m.pa.length m.pC) (.string ⟨#[]⟩)
    rw[<-e4]
    have V:=y.kp C.out (ts:=[102]) (by simp)
    have H:=Hp (a1.kp V (by decide) (by decide) (by decide))
    have a6:=Hp ((y.block w.heap.size (ZL c.out) (by omega)).trans c.out)
    have a3:=Hp (q.trans ((y.below (GY2 (ZL C.out))).mono (by omega)))
    have a2:=Hp (H.ok ⟨rfl,rfl,rfl,rfl,rfl,rfl,rfl⟩ I.out)
    have N:=Hp (Td K m ⟨#[]⟩ w4 a2.out (Nat.zero_le _))
    rw[HO.out]at N
    have a8:=Hp h4
    obtain⟨⟨q0,q1,q2,q3,q4,q5,q6,q7,q8⟩,_⟩:=Rv h4
    clear e4 h4 y V m0 m1 m2 m3 m4 m5 m6 P r0 r1 r2 r3 r4 r5 r6 r7 r8 f0 f1 f2 f3 f4 f5 f6 f7 f8 g0 g1 g2 g3 g4 g5 g6 g7 g8
    go_wp2_with fail
    refine(N.out).mono ?_;rintro e w5 ⟨rfl,n⟩
    have B:=Hp (aF n a6)
    have b0:=Hp (a3.trans (n.mono a3.size))
    have a0:=Hp (H.below n)
    obtain⟨⟨q0,q1,q2,q3,q4,q5,q6,q7,q8⟩,_⟩:=Rv (aF n a8.out)
    obtain⟨⟨r0,r1,r2,r3,r4,r5,r6,r7,r8⟩,f0,f1,f2,f3,f4,f5,f6,f7,f8⟩:=Rv B.out
    clear n N
    go_wp2_with fail
    obtain⟨z,G⟩:=Uq B.out (.int .i64 K) (.string m.name) (.int .i64 m.major) (.int .i64 m.minor) (.string m.text) (.slice m.eA m.ex.length m.eC) (.slice m.iA m.im.length m.iC) (.slice m.pA m.pa.length m.pC) (.string ⟨#[]⟩)
    refine bodyPost_ret (results_cell_tmp rfl _ _ w.heap.size 102 _ (0,0) _ rfl z Tryz.underlying102 rfl Tryz.iK) rfl ?_
    rw[p.out]
    have g:=a0.kp (G.kp B.out (ts:=[102]) (by simp)) (by decide) (by decide) (by decide)
    exact⟨⟨m,rfl,g.ok ⟨rfl,rfl,rfl,rfl,rfl,rfl,rfl⟩ I.out,g,Y.out⟩,b0.trans (G.below (GY2 (ZL B.out)))⟩
   ·have s':(E != 0)=true:=by simp[s]
    have p:=Hp (show aS (b::r)=(1,jP) by rw[a.out,if_pos s])
    clear s a j
    go_wp2_with fail
    obtain⟨z,G⟩:=Uq c.out (.int .i64 0) (.string ⟨#[]⟩) (.int .i64 0) (.int .i64 0) (.string ⟨#[]⟩) (.slice none 0 0) (.slice none 0 0) (.slice none 0 0) (.string ⟨#[]⟩)
    refine bodyPost_ret (results_cell_tmp rfl _ _ w.heap.size 102 _ (0,0) _ rfl z Tryz.underlying102 rfl Tryz.iK) rfl ?_
    rw[p.out]
    exact⟨⟨zeroMod,rfl,zero_ok _,dW _ _,⟨rfl,rfl,rfl,rfl,rfl,rfl,rfl⟩⟩,q.trans (G.below (GY2 (ZL c.out)))⟩
end
end Go.Proofs.YtjiedaialianmaaGreat
