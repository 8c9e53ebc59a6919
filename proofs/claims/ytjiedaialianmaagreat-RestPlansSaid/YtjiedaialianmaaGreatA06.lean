import Derived.Test.YtjiedaialianmaaGreatA02
import Derived.Test.YtjiedaialianmaaGreatA05
import Derived.Deep.AppendLies
import Derived.Lib.MapLaws
import Derived.Shelf.Slices.In.CompactS
import Derived.Sort.OwnSorted
import Derived.Lib.OwnBridge
namespace Go.Proofs.YtjiedaialianmaaGreat
section
open Go
open Gs (Tx)
abbrev tx (s:ByteArray):Tx:=s.data.toList
theorem FC {a b:ByteArray}(h:tx a=tx b):a=b:=by
 cases a;cases b;congr 1;exact Array.toList_inj.1 h
theorem Qr (l:Tx):tx ⟨l.toArray⟩=l:=by simp[tx]
theorem Qt (s:ByteArray):(⟨(tx s).toArray⟩:ByteArray)=s:=by cases s;simp[tx]
def txs (l:List Plc):List Tx:=l.map fun x=>tx x.m.name
def asks (m:Mod)(b:Tx):Bool:=m.im.any fun i=>decide (tx i.mod=b)
def Us (a:Tx)(x:Plc):Bool:=decide (tx x.m.name=a)
theorem Iq (s:ByteArray):Us (tx s)=named s:=by
 funext x;unfold Us named
 by_cases h:x.m.name=s
 ·simp[h]
 ·have:tx x.m.name≠tx s:=fun e=>h (FC e)
  simp[h,this]
def nU (l:List Plc)(a b:Tx):Bool:=match l.find? (Us a)with
 |some x=>asks x.m b
 |none=>false
def kV (l:List Plc)(i k:Nat):Bool:=match l[i]? with
 |some x=>asks x.m ((txs l).getD k [])
 |none=>false
def nmN (l:List Plc)(i:Nat):Tx:=(txs l).getD i []
theorem eZ (l:List Plc):(txs l).length=l.length:=by simp[txs]
theorem xB {l:List Plc}{i:Nat}(h:i<l.length):(txs l)[i]'(by rw[eZ];exact h)=tx l[i].m.name:=by simp[txs]
theorem Sq {l:List Plc}{i:Nat}(h:i<l.length):nmN l i=tx l[i].m.name:=by
 unfold nmN;rw[List.getD_eq_getElem?_getD,GY5 (by rw[eZ];exact h),Option.getD_some,xB h]
theorem Kr (l:List Plc):Gs.names (nmN l) l.length=txs l:=by
 unfold Gs.names
 apply List.ext_getElem
 ·simp[txs]
 ·intro i b a
  rw[List.getElem_map,List.getElem_range,Sq (by rwa [eZ]at a),xB (by rwa [eZ]at a)]
theorem yB {l:List Plc}(c:(txs l).Nodup):∀i k,i<l.length->k<l.length->nmN l i=nmN l k->i=k:=by
 intro i k b a e
 rw[Sq b,Sq a,<-xB b,<-xB a]at e
 have f:i<(txs l).length:=by rw[eZ];exact b
 have d:k<(txs l).length:=by rw[eZ];exact a
 rcases Nat.lt_trichotomy i k with h|h|h
 ·exact absurd e (List.pairwise_iff_getElem.1 c i k f d h)
 ·exact h
 ·exact absurd e.symm (List.pairwise_iff_getElem.1 c k i d f h)
theorem Ic {l:List Plc}(b:(txs l).Nodup){i:Nat}(a:i<l.length):l.find? (Us (nmN l i))=some l[i]:=by
 rw[List.find?_eq_some_iff_getElem]
 refine⟨by simp[Us,Sq a],i,a,rfl,fun j c=>?_⟩
 have:tx (l[j]'(by omega)).m.name≠nmN l i:=fun e=>by
  have:=yB b j i (by omega) a (by rw[Sq (show j<l.length by omega)];exact e)
  omega
 simp[Us,this]
theorem Jm {l:List Plc}(b:(txs l).Nodup):∀i k,i<l.length->k<l.length->nU l (nmN l i) (nmN l k)=kV l i k:=by
 intro i k a _
 unfold nU kV
 rw[Ic b a,GY5 a];rfl
def dD (l:List Plc):Bool:=decide ((Lib.compact (Gs.Sd (txs l))).length<l.length)
theorem SQ (l:List Plc):dD l=true↔¬(txs l).Nodup:=by
 unfold dD
 rw[decide_eq_true_eq]
 have h:=Gs.Ih (Gs.wT (txs l))
 rw[(Gs.SN (txs l)).nodup_iff,(Gs.SN (txs l)).length_eq,eZ]at h
 exact h
theorem xE {l:List Plc}(h:dD l=false):(txs l).Nodup:=
 Classical.byContradiction fun a=>by rw[(SQ l).2 a]at h;cases h
def PX (_:Plc):Bool:=true
def Dh (l:List Plc):Int:=if bY PX l≠0 then bY PX l else if dD l=true then 6 else 0
theorem OV {l:List Plc}(h:Dh l=0):l.length<=8/\(∀x∈l,aL x.m=0)/\(txs l).Nodup:=by
 unfold Dh at h
 split at h
 ·contradiction
 ·rename_i e
  split at h
  ·cases h
  ·rename_i d
   obtain⟨a,b⟩:=TB (by omega:bY PX l=0)
   exact⟨a,fun x c=>(b x c).1,xE (by simpa using d)⟩
def rT (l:List Plc):Option (List Tx):=Gs.order (nU l) l.length (Gs.Sd (txs l)) []
def yP (l:List Plc):Gr.Tab:=Gr.Tab.all l.length (Gr.Tab.mk (kV l) l.length)
def eH (l:List Plc):Bool:=(List.range l.length).any fun i=>(yP l).at i i
def QO (l:List Plc):List Tx:=Gs.vO (nmN l) (yP l).at l.length l.length (List.replicate l.length false) []
theorem JJ {l:List Plc}(h:Dh l=0):rT l=if eH l=true then none else some (QO l):=by
 obtain⟨_,_,d⟩:=OV h
 have N:=Gs.Qc (n:=l.length) (Jm d) (yB d)
 have f:Gs.Inv (nmN l) (Gr.Way (kV l) l.length) l.length (List.replicate l.length false) (Gs.Sd (txs l)):=by
  rw[<-Kr];exact Gs.Inv.begun
 have e:(Gs.Sd (txs l)).length=l.length:=by rw[(Gs.SN _).length_eq,eZ]
 unfold rT
 by_cases b:eH l=true
 ·rw[if_pos b]
  obtain⟨i,a,c⟩:=List.any_eq_true.1 b
  have a:=List.mem_range.1 a
  exact Gs.yT N a ((N.tab i i a a).1 c) _ _ _ _ f e (by
   rw[List.getD_eq_getElem?_getD,List.getElem?_replicate];split<;>rfl)
 ·rw[if_neg b]
  exact Gs.Dq N (fun i a c=>b (List.any_eq_true.2 ⟨i,List.mem_range.2 a,(N.tab i i a a).2 c⟩)) _ _ _ _ f e
end
section
open Go
open Gs (Tx)
def aX (k:Krn)(l:List Plc):Int:=if bJ k≠0 then bJ k else if RY l≠0 then RY l else if dD l=true then 6 else 0
theorem dM {k:Krn}{l:List Plc}(h:aX k l=0):bJ k=0/\RY l=0/\dD l=false/\iB k l=0:=by
 unfold aX at h
 split at h
 ·contradiction
 ·rename_i j
  split at h
  ·contradiction
  ·rename_i i
   split at h
   ·cases h
   ·rename_i e
    have b:RY l=0:=by omega
    refine⟨by omega,b,by simpa using e,?_⟩
    obtain⟨g,a,_⟩:=cZ b
    unfold iB
    rw[if_neg (by omega)]
    unfold bY
    rw[if_neg (by omega)]
    refine TV (fun x d=>?_)
    obtain⟨c,f⟩:=a x d
    have:=gK c
    simp only[kE,Bool.and_eq_true,decide_eq_true_eq]at f
    exact⟨c,by simp only[P9,Bool.and_eq_true,decide_eq_true_eq];omega⟩
def bV (x:Plc):Int:=4096+64*x.first
def iX (at_:List Int)(a:Int)(p:Pat):Int:=if p.sym<0 then a else at_.getD p.sym.toNat 0
def bH (at_:List Int)(a:Int):List Pat->ByteArray->ByteArray×Int
 | [],s=>(s,0)
 |p::r,s=>if RO s.size p.kind p.at_ p.add (iX at_ a p) a≠0 then(⟨#[]⟩,RO s.size p.kind p.at_ p.add (iX at_ a p) a)
  else bH at_ a r (bS s p.kind p.at_ p.add (iX at_ a p) a)
def pad (n:Nat)(s:Tx):Tx:=s++List.replicate (n -s.length) 255
def fE (k:Krn)(l:List Plc)(x:Plc):Tx×Int:=
 if(aN k l x.m.im).2≠0 then([],(aN k l x.m.im).2)
 else if(bH (aN k l x.m.im).1 (bV x) x.m.pa x.m.text).2≠0 then([],(bH (aN k l x.m.im).1 (bV x) x.m.pa x.m.text).2)
 else(pad (64*(aH x.m).toNat) (tx (bH (aN k l x.m.im).1 (bV x) x.m.pa x.m.text).1),0)
def bU (k:Krn)(l:List Plc):List Plc->Int->Tx×Int
 | [],at_=>(List.replicate (64*(16 -at_)).toNat 255,0)
 |x::r,at_=>if(fE k l x).2≠0 then([],(fE k l x).2)else
  if(bU k l r (aR x)).2≠0 then([],(bU k l r (aR x)).2)else(List.replicate (64*(x.first -at_)).toNat 255++(fE k l x).1++(bU k l r (aR x)).1,0)
def iP (k:Krn)(l:List Plc):Int:=if aX k l≠0 then aX k l else(bU k l l 0).2
def TL (k:Krn)(l:List Plc):Tx:=if aX k l≠0 then[]else(bU k l l 0).1
theorem Rz {s:ByteArray}{a at_ c d b:Int}(h:RO s.size a at_ c d b=0):(bS s a at_ c d b).size=s.size:=by
 unfold bS
 rw[if_pos h]
 have f:aK a≠0:=by intro e;unfold RO at h;rw[if_pos e]at h;omega
 have i:¬(c<0\/65535<c\/at_<0\/s.size -aK a<at_\/b<0\/65279<b):=by
  intro e;unfold RO at h;rw[if_neg f,if_pos e]at h;omega
 have g:=xO a f
 exact Fy s _ _ _ (by omega)
theorem tF {at_:List Int}{a:Int}:∀{r:List Pat}{s:ByteArray},(bH at_ a r s).2=0->(bH at_ a r s).1.size=s.size
 | [],s,_=>rfl
 |p::r,s,h=>by
  unfold bH at h ⊢
  by_cases e:RO s.size p.kind p.at_ p.add (iX at_ a p) a=0
  ·rw[if_neg (by omega)]at h ⊢
   rw[tF h,Rz e]
  ·rw[if_pos e]at h;exact absurd h e
theorem Jo {n:Nat}{s:Tx}(h:s.length<=n):(pad n s).length=n:=by
 unfold pad;rw[GZ8,List.length_replicate];omega
theorem xC (m:Mod):(m.text.size:Int)<=64*aH m/\64*aH m<m.text.size+64/\0<=aH m:=by
 unfold aH;omega
theorem wH {k:Krn}{l:List Plc}{x:Plc}(h:(fE k l x).2=0):((fE k l x).1.length:Int)=64*aH x.m:=by
 obtain⟨e,d,c⟩:=xC x.m
 unfold fE at h ⊢
 split at h
 ·contradiction
 ·rename_i b
  split at h
  ·contradiction
  ·rename_i a
   rw[if_neg b,if_neg a]
   have:=tF (show(bH (aN k l x.m.im).1 (bV x) x.m.pa x.m.text).2=0 by omega)
   show((pad _ _).length:Int)=_
   rw[Jo]
   ·omega
   ·show(bH (aN k l x.m.im).1 (bV x) x.m.pa x.m.text).1.size<=_
    omega
end
section
open Go
open Gs (Tx)
theorem tQ {q:Plc->Bool}:∀{l:List Plc},(∀x∈l,aL x.m=0/\q x=true)->fU q l=0
 | [],_=>rfl
 |x::l,h=>by
  unfold fU
  have b:=h x (by simp)
  rw[if_neg (by omega),if_neg (by simp[b.2])]
  exact tQ (fun y a=>h y (List.mem_cons_of_mem _ a))
theorem I9 {l:List Plc}(f:l.length<=8)(h:∀x∈l,aL x.m=0)(b:(txs l).Nodup):Dh l=0:=by
 have d:bY PX l=0:=by unfold bY;rw[if_neg (by omega)];exact tQ (fun x a=>⟨h x a,rfl⟩)
 have c:¬dD l=true:=fun e=>by rw[SQ]at e;exact e b
 unfold Dh;rw[d,if_neg c];rfl
end
section
open Go
open Gs (Tx)
def aZ (k:Krn)(l:List Plc):Int:=if aX k l≠0 then aX k l else if eH l=true then 4 else(bU k l l 0).2
theorem Sz {k:Krn}{l:List Plc}(h:aZ k l=0):aX k l=0/\eH l=false/\(bU k l l 0).2=0:=by
 unfold aZ at h
 by_cases a:aX k l=0
 ·rw[if_neg (by omega)]at h
  cases b:eH l
  ·rw[b,if_neg (by simp)]at h;exact⟨a,rfl,h⟩
  ·rw[b,if_pos rfl]at h;omega
 ·rw[if_pos a]at h;exact absurd h a
theorem Pt {k:Krn}{l:List Plc}(h:aX k l=0):Dh l=0:=by
 have a:=dM h
 exact I9 (cZ a.2.1).1 (fun x b=>((cZ a.2.1).2.1 x b).1) (xE a.2.2.1)
theorem Fg {k:Krn}{l:List Plc}(h:aX k l=0):(rT l).isSome=!eH l:=by
 rw[JJ (Pt h)]
 cases eH l<;>simp
def Mod.bare (m:Mod):Mod:={m with eA:=none,eC:=0,iA:=none,iC:=0,pA:=none,pC:=0}
def Plc.bare (x:Plc):Plc:=⟨x.m.bare,x.first⟩
def Krn.bare (k:Krn):Krn:={k with eA:=none,eC:=0}
abbrev aD (l:List Plc):List Plc:=l.map Plc.bare
section
variable (m:Mod) (x:Plc) (k:Krn) (l:List Plc)
theorem GK :bJ k.bare=bJ k:=rfl
theorem Gj :txs (aD l)=txs l:=by unfold txs aD;rw[List.map_map];rfl
theorem mO :(aD l).length=l.length:=by simp[aD]
theorem wD {q:Plc->Bool}(a:∀x,q (Plc.bare x)=q x):∀l,fU q (aD l)=fU q l
 | []=>rfl
 |x::l=>by
  show fU q (x.bare::aD l)=_
  unfold fU
  rw[a x,wD a l];rfl
theorem EZ {q:Plc->Bool}(a:∀x,q (Plc.bare x)=q x):bY q (aD l)=bY q l:=by
 unfold bY;rw[mO,wD a]
theorem yE :∀l,iI (aD l)=iI l
 | []=>rfl
 | [_]=>rfl
 |x::y::l=>by
  show(if y.bare.first<aR x.bare then 4 else iI (aD (y::l)))=_
  rw[yE (y::l)];rfl
theorem qW :RY (aD l)=RY l:=by
 unfold RY;rw[EZ l (fun _=>rfl),yE]
theorem El :dD (aD l)=dD l:=by
 unfold dD;rw[Gj,mO]
theorem EH :aX k.bare (aD l)=aX k l:=by
 unfold aX;rw[GK,qW,El]
theorem La :kV (aD l)=kV l:=by
 funext i j
 unfold kV
 rw[Gj,List.getElem?_map]
 cases l[i]?<;>rfl
theorem EK :eH (aD l)=eH l:=by
 unfold eH yP;rw[La,mO]
theorem xZ (a:ByteArray):∀l,(aD l).find? (named a)=(l.find? (named a)).map Plc.bare
 | []=>rfl
 |x::l=>by
  show(x.bare::aD l).find? (named a)=_
  rw[List.find?_cons,List.find?_cons,xZ a l]
  have:named a x.bare=named a x:=rfl
  rw[this]
  cases named a x<;>rfl
theorem H7 (i:Imp):addrOf k.bare (aD l) i=addrOf k l i:=by
 unfold addrOf
 rw[xZ]
 cases l.find? (named i.mod)<;>rfl
theorem wW :∀r,aN k.bare (aD l) r=aN k l r
 | []=>rfl
 |i::r=>by unfold aN;rw[H7,wW r]
theorem JU :fE k.bare (aD l) x.bare=fE k l x:=by
 unfold fE
 have h:aN k.bare (aD l) x.bare.m.im=aN k l x.m.im:=wW k l x.m.im
 rw[h];rfl
theorem nP :∀r a,bU k.bare (aD l) (aD r) a=bU k l r a
 | [],_=>rfl
 |x::r,a=>by
  show bU k.bare (aD l) (x.bare::aD r) a=_
  unfold bU
  have h:aR x.bare=aR x:=rfl
  rw[JU,h,nP r];rfl
theorem zZ :aZ k.bare (aD l)=aZ k l:=by
 unfold aZ;rw[EH,EK,nP]
end
theorem kQ {k k':Krn}{l a:List Plc}(c:k.bare=k'.bare)(b:aD l=aD a):aZ k l=aZ k' a:=by
 rw[<-zZ k l,c,b,zZ]
end
section
open Go
namespace Gr
section
variable {N:Type}
structure yU (all m M:List N):Prop where
 sub:∀x,x∈m->x∈M
 nd:m.Nodup->M.Nodup
 inn:(∀x,x∈m->x∈all)->∀x,x∈M->x∈all
theorem yU.refl (all m:List N):yU all m m:=⟨fun _ h=>h,fun h=>h,fun h=>h⟩
theorem yU.trans {all a b c:List N}(h:yU all a b)(k:yU all b c):yU all a c:=⟨fun x d=>k.sub x (h.sub x d),fun n=>k.nd (h.nd n),fun n=>k.inn (h.inn n)⟩
theorem yU.cons {all m:List N}{b:N}(d:b∈all)(c:b ∉ m):yU all m (b::m):=
 ⟨fun x a=>List.mem_cons_of_mem _ a,fun n=>List.nodup_cons.2 ⟨c,n⟩,fun n x a=>by
  rcases List.mem_cons.1 a with rfl|q
  ·exact d
  ·exact n x q⟩
end
end Gr
end
section
open Go
def bL (s:ByteArray):List UInt8:=digits s.size 1++s.data.toList
def eX (x:Exp):List UInt8:=bL x.name++digits x.at_ 2
def eG (x:Imp):List UInt8:=bL x.mod++bL x.name++digits x.major 1++digits x.minor 1
def gB (p:Pat):List UInt8:=digits p.kind 1++digits p.at_ 2++digits (p.sym+1) 1++digits p.add 2
def kG (m:Mod):List UInt8:=bL m.name++digits m.major 1++digits m.minor 1++digits m.text.size 2++m.text.data.toList
def dK (m:Mod):List UInt8:=kG m++digits m.ex.length 1++m.ex.flatMap eX++digits m.im.length 1++m.im.flatMap eG++digits m.pa.length 1++m.pa.flatMap gB
theorem kF {α:Type}{f:α->List UInt8}{K:Nat}:∀{l:List α},(∀x∈l,(f x).length<=K)->(l.flatMap f).length<=l.length*K
 | [],_=>by simp
 |x::l,h=>by
  have c:=kF (l:=l) fun y a=>h y (List.mem_cons_of_mem _ a)
  have b:=h x (by simp)
  rw[List.flatMap_cons,GZ8,GY8,Nat.succ_mul]
  omega
theorem Sm {α:Type}{f:α->List UInt8}{l:List α}{j:Nat}(h:j<l.length):(l.take (j+1)).flatMap f=(l.take j).flatMap f++f l[j]:=by
 rw[List.take_succ_eq_append_getElem h,List.flatMap_append]
 simp
theorem aT (s:ByteArray):(bL s).length=s.size+1:=by
 unfold bL
 rw[GZ8,digits_length]
 have:s.data.toList.length=s.size:=by rw[Array.length_toList];rfl
 omega
theorem lS (x:Exp):(eX x).length=x.name.size+3:=by
 unfold eX
 rw[GZ8,digits_length,aT]
theorem nW (x:Imp):(eG x).length=x.mod.size+x.name.size+4:=by
 unfold eG
 simp only[GZ8,digits_length,aT]
 omega
theorem lK (x:Pat):(gB x).length=6:=by
 unfold gB
 simp only[GZ8,digits_length]
end
section
open Go
abbrev Rest :=Option (List UInt8)
def txt (n:Nat):Rest->List UInt8×Rest
 |none=>([],none)
 |some s=>if s.length<n then([],none)else(s.take n,some (s.drop n))
def aI (k:Nat)(a:Rest):Int×Rest:=(num (txt k a).1,(txt k a).2)
def nam (a:Rest):List UInt8×Rest:=txt (aI 1 a).1.toNat (aI 1 a).2
def left :Rest->List UInt8
 |none=>[]
 |some s=>s
def dU {α:Type}(f:Rest->α×Rest):Nat->Rest->List α×Rest
 |0,st=>([],st)
 |_+1,none=>([],none)
 |n+1,some s=>((f (some s)).1::(dU f n (f (some s)).2).1,(dU f n (f (some s)).2).2)
abbrev sof (l:List UInt8):ByteArray:=⟨l.toArray⟩
def gF (a:Rest):Exp×Rest:=(⟨sof (nam a).1,(aI 2 (nam a).2).1⟩,(aI 2 (nam a).2).2)
def Ro (st:Rest):Imp×Rest:=
 let a:=nam st
 let b:=nam a.2
 let c:=aI 1 b.2
 let d:=aI 1 c.2
 (⟨sof a.1,sof b.1,c.1,d.1⟩,d.2)
def fZ (st:Rest):Pat×Rest:=
 let a:=aI 1 st
 let b:=aI 2 a.2
 let c:=aI 1 b.2
 let d:=aI 2 c.2
 (⟨a.1,b.1,c.1 -1,d.1⟩,d.2)
theorem wN {n:Nat}{s:List UInt8}(h:s.length<n):txt n (some s)=([],none):=by unfold txt;exact if_pos h
theorem oU {n:Nat}{s:List UInt8}(h:¬s.length<n):txt n (some s)=(s.take n,some (s.drop n)):=by unfold txt;exact if_neg h
theorem lI (n:Nat)(a:Rest):(txt n a).1.length=n\/(txt n a).1=[]/\(txt n a).2=none:=by
 cases a with
 |none=>exact .inr ⟨rfl,rfl⟩
 |some s=>
  by_cases h:s.length<n
  ·rw[wN h];exact .inr ⟨rfl,rfl⟩
  ·rw[oU h];left;rw[GY6];omega
theorem Mh (n:Nat)(a:Rest):(left (txt n a).2).length<=(left a).length:=by
 cases a with
 |none=>exact GZ3 _
 |some s=>
  by_cases h:s.length<n
  ·rw[wN h];simp[left]
  ·rw[oU h];simp[left]
theorem dZ (k:Nat)(a:Rest)(b:k<=2):0<=(aI k a).1/\(aI k a).1<=65535:=by
 unfold aI
 have f:=num_nonneg (txt k a).1
 have e:=EP (txt k a).1
 have d:(txt k a).1.length<=2:=by
  rcases lI k a with h|h
  ·omega
  ·rw[h.1];simp
 have c:dV (txt k a).1.length<=65536:=by
  rw[qN]
  have:(2:Int)^(8*(txt k a).1.length)<=2^16:=by
   have:=Nat.pow_le_pow_right (show 0<2 by decide) (show 8*(txt k a).1.length<=16 by omega)
   exact_mod_cast this
  omega
 show 0<=num _/\num _<=65535
 omega
theorem Ru (a:Rest):(aI 1 a).1<=255:=by
 unfold aI
 have d:=EP (txt 1 a).1
 have c:(txt 1 a).1.length<=1:=by
  rcases lI 1 a with h|h
  ·omega
  ·rw[h.1];simp
 have b:dV (txt 1 a).1.length<=256:=by
  rw[qN]
  have:(2:Int)^(8*(txt 1 a).1.length)<=2^8:=by
   have:=Nat.pow_le_pow_right (show 0<2 by decide) (show 8*(txt 1 a).1.length<=8 by omega)
   exact_mod_cast this
  omega
 show num _<=255
 omega
def d0 (l:List UInt8):=nam (some l)
def d1 (l:List UInt8):=aI 1 (d0 l).2
def d2 (l:List UInt8):=aI 1 (d1 l).2
def d3 (l:List UInt8):=aI 2 (d2 l).2
def d4 (l:List UInt8):=txt (d3 l).1.toNat (d3 l).2
def d5 (l:List UInt8):=dU gF (aI 1 (d4 l).2).1.toNat (aI 1 (d4 l).2).2
def d6 (l:List UInt8):=dU Ro (aI 1 (d5 l).2).1.toNat (aI 1 (d5 l).2).2
def d7 (l:List UInt8):=dU fZ (aI 1 (d6 l).2).1.toNat (aI 1 (d6 l).2).2
def pQ (l:List UInt8):Mod:=⟨sof (d0 l).1,(d1 l).1,(d2 l).1,sof (d4 l).1,(d5 l).1,(d6 l).1,(d7 l).1,none,0,none,0,none,0⟩
def dO (l:List UInt8):Int:=if(d7 l).2≠some []then 1 else aL (pQ l)
def zeroMod :Mod:=⟨sof [],0,0,sof [],[],[],[],none,0,none,0,none,0⟩
def iD (l:List UInt8):Mod:=if dO l≠0 then zeroMod else pQ l
structure gI (a b:Mod):Prop where
 name:a.name=b.name
 major:a.major=b.major
 minor:a.minor=b.minor
 text:a.text=b.text
 ex:a.ex=b.ex
 im:a.im=b.im
 pa:a.pa=b.pa
theorem gI.err {a b:Mod}(h:gI a b):aL a=aL b:=by
 unfold aL
 rw[h.name,h.major,h.minor,h.text,h.ex,h.im,h.pa]
theorem gI.enc {a b:Mod}(h:gI a b):dK a=dK b:=by
 unfold dK kG
 rw[h.name,h.major,h.minor,h.text,h.ex,h.im,h.pa]
theorem dB (n:Nat){a:Rest}{m:Nat}(h:(left a).length<=m):(left (txt n a).2).length<=m:=GY1 (Mh n a) h
theorem wS {a:Rest}{m:Nat}(h:(left a).length<=m):(left (nam a).2).length<=m:=dB _ (dB 1 h)
theorem NR {a:Rest}{m:Nat}(h:(left a).length<=m):(left (gF a).2).length<=m:=dB 2 (wS h)
theorem NT {a:Rest}{m:Nat}(h:(left a).length<=m):(left (Ro a).2).length<=m:=dB 1 (dB 1 (wS (wS h)))
theorem NF {a:Rest}{m:Nat}(h:(left a).length<=m):(left (fZ a).2).length<=m:=dB 2 (dB 1 (dB 2 (dB 1 h)))
theorem jC {α:Type}(f:Rest->α×Rest):∀(n:Nat)(a:Rest),(dU f n a).1.length<=n
 |0,_=>GZ3 _
 |_+1,none=>Nat.zero_le _
 |n+1,some _=>Nat.succ_le_succ (jC f n _)
theorem Tq {α:Type}{f:Rest->α×Rest}{Q:α->Prop}(h:∀b,Q (f b).1):∀(n:Nat)(b:Rest),∀x∈(dU f n b).1,Q x
 |0,_,x,a=>by simp[dU]at a
 |_+1,none,x,a=>by simp[dU]at a
 |n+1,some _,x,a=>by
  rcases List.mem_cons.1 a with rfl|a
  ·exact h _
  ·exact Tq h n _ x a
theorem NS (a:Rest):(nam a).1.length<=255:=by
 have d:(nam a).1.length<=(aI 1 a).1.toNat:=by
  unfold nam
  rcases lI (aI 1 a).1.toNat (aI 1 a).2 with h|h
  ·omega
  ·rw[h.1];simp
 have c:=Ru a
 have b:=(dZ 1 a (by omega)).1
 omega
end
section
open Go.RowKit Go.Lib
theorem Tryz.T9 :(Tryz.prog.info? 83).map (·.size)=some 8:=by kernel_rfl
def jB :Mod:=⟨⟨#[]⟩,0,0,⟨#[]⟩,[],[],[],none,0,none,0,none,0⟩
theorem xQ {m:Mod}(h:aL m=0):m.ex.length<=1000000/\m.im.length<=1000000/\m.pa.length<=1000000:=by
 have q:=aY h
 exact⟨GY1 q.2.2.2.2.2.1 (by omega),GY1 q.2.2.2.2.2.2.1 (by omega),GY1 q.2.2.2.2.2.2.2.1 (by omega)⟩
end
section
open Go
open Gs (Tx)
def Rj :Int->List Plc->Option (List Plc)
 |_,[]=>none
 |a,x::l=>if a<x.first then some (⟨x.m,a⟩::l)else(Rj (aR x) l).map (x:: ·)
def bI :Int->List Plc->List Plc×Nat
 |_,[]=>([],0)
 |a,x::l=>(⟨x.m,a⟩::(bI (a+aH x.m) l).1,(bI (a+aH x.m) l).2+if x.first=a then 0 else 1)
theorem Uh :∀{l:List Plc}{a:Int},bW a l->Rj a l=none->bI a l=(l,0)
 | [],_,_,_=>rfl
 |x::l,a,⟨h1,h2,h3,h4⟩,h=>by
  unfold Rj at h
  by_cases e:a<x.first
  ·rw[if_pos e]at h;cases h
  ·rw[if_neg e]at h
   have b:x.first=a:=by omega
   have f:Rj (aR x) l=none:=by
    cases d:Rj (aR x) l
    ·rfl
    ·rw[d]at h;cases h
   have c:=Uh h4 f
   unfold bI
   have g:a+aH x.m=aR x:=by unfold aR;omega
   rw[g,c,if_pos b]
   show((⟨x.m,a⟩::l:List Plc),0+0)=_
   rw[<-b]
theorem xS :∀{l b:List Plc}{a:Int},bW a l->Rj a l=some b->bW a b/\bI a l=((bI a b).1,(bI a b).2+1)
 | [],_,_,_,h=>by cases h
 |x::l,b,a,⟨h1,h2,h3,h4⟩,h=>by
  unfold Rj at h
  by_cases e:a<x.first
  ·rw[if_pos e]at h
   obtain rfl:=GY3 h
   refine⟨⟨by simp,h2,h3,h4.lower (by unfold aR;simp only;omega)⟩,?_⟩
   unfold bI
   rw[if_neg (by omega)]
   simp
  ·rw[if_neg e]at h
   have g:x.first=a:=by omega
   cases c:Rj (aR x) l with
   |none=>rw[c]at h;cases h
   |some r=>
    rw[c]at h
    obtain rfl:=GY3 h
    obtain⟨f,d⟩:=xS h4 c
    refine⟨⟨h1,h2,h3,f⟩,?_⟩
    have i:a+aH x.m=aR x:=by unfold aR;omega
    show bI a (x::l)=((bI a (x::r)).1,_)
    unfold bI
    rw[i,d,if_pos g];simp
theorem FK :∀{l:List Plc}{a:Int},(bI a l).2<=l.length
 | [],_=>GZ3 _
 |x::l,a=>by
  unfold bI
  have:=FK (l:=l) (a:=a+aH x.m)
  rw[GY8]
  show(bI (a+aH x.m) l).2+_<=_
  split<;>omega
theorem Uj :∀{l:List Plc}{a:Int},(bI a l).1.map (·.m)=l.map (·.m)
 | [],_=>rfl
 |x::l,a=>by
  show x.m::(bI (a+aH x.m) l).1.map (·.m)=_
  rw[Uj];rfl
theorem rM :∀{l b:List Plc}{a:Int},Rj a l=some b->b.map (·.m)=l.map (·.m)
 | [],_,_,h=>by cases h
 |x::l,b,a,h=>by
  unfold Rj at h
  by_cases e:a<x.first
  ·rw[if_pos e]at h
   obtain rfl:=GY3 h
   rfl
  ·rw[if_neg e]at h
   cases c:Rj (aR x) l with
   |none=>rw[c]at h;cases h
   |some r=>
    rw[c]at h
    obtain rfl:=GY3 h
    show x.m::r.map (·.m)=_
    rw[rM c];rfl
theorem kL {l a:List Plc}(h:l.map (·.m)=a.map (·.m)):l.length=a.length:=by
 have:=congrArg List.length h
 simpa using this
theorem oF {l a:List Plc}(h:l.map (·.m)=a.map (·.m)){x:Plc}(c:x∈a):∃y∈l,y.m=x.m:=by
 have:x.m∈l.map (·.m):=by rw[h];exact List.mem_map_of_mem c
 obtain⟨y,b,e⟩:=List.mem_map.1 this
 exact⟨y,b,e⟩
end
section
open Go
theorem yA :∀(l:List Plc)(a:Int),bI a (aD l)=(aD (bI a l).1,(bI a l).2)
 | [],_=>rfl
 |x::l,a=>by
  show bI a (x.bare::aD l)=_
  unfold bI
  have e:aH x.bare.m=aH x.m:=rfl
  have f:x.bare.first=x.first:=rfl
  rw[e,f,yA l];rfl
theorem Ad :∀(l:List Plc)(a:Int),bW a (aD l)↔bW a l
 | [],_=>Iff.rfl
 |x::l,a=>by
  show(a<=x.first/\1<=aH x.m/\aH x.m<=4/\bW (aR x) (aD l))↔_
  rw[Ad l];rfl
theorem EG {l b:List Plc}(h:aD l=aD b)(a:Int):aD (bI a l).1=aD (bI a b).1/\(bI a l).2=(bI a b).2:=by
 have e:=(yA l a).symm.trans ((congrArg (bI a) h).trans (yA b a))
 have d:=congrArg Prod.fst e
 have c:=congrArg Prod.snd e
 exact⟨d,c⟩
theorem Jk {l b:List Plc}(h:aD l=aD b){a:Int}(c:bW a l):bW a b:=by
 rw[<-Ad]at c ⊢;rwa [<-h]
theorem MK {l a:List Plc}(h:aD l=aD a){n:Nat}(d:∀x∈a,x.m.text.size<=n):∀x∈l,x.m.text.size<=n:=fun x c=>by
 have:x.bare∈aD a:=h▸List.mem_map_of_mem c
 obtain⟨y,b,e⟩:=List.mem_map.1 this
 have f:y.m.text=x.m.text:=congrArg (fun z=>z.m.text) e
 rw[<-f];exact d y b
theorem nY {l a:List Plc}(h:aD l=aD a):l.length=a.length:=by
 have:=congrArg List.length h
 simpa using this
theorem LW {l a:List Plc}(h:l.map (·.m)=a.map (·.m)){n:Nat}(d:∀x∈a,x.m.text.size<=n):∀x∈l,x.m.text.size<=n:=fun x c=>by
 obtain⟨y,b,e⟩:=oF h.symm c
 rw[<-e];exact d y b
theorem Je (l:List Plc)(a:Int):((Rj a l).getD l).map (·.m)=l.map (·.m):=by
 cases h:Rj a l with
 |none=>rfl
 |some l'=>exact rM h
end
end Go.Proofs.YtjiedaialianmaaGreat
