import Derived.Test.YtjiedaialianmaaGreatA03
import Derived.Test.YtjiedaialianmaaGreatA05
import Derived.Laws.CopyOwn
import Derived.Deep.OwnRows
set_option maxRecDepth 100000
set_option maxHeartbeats 4000000
namespace Go.Proofs.YtjiedaialianmaaGreat
section
open Go
open Gs (Tx)
def aX (k:Krn)(l:List Plc):Int:=if bJ k≠0 then bJ k else if RY l≠0 then RY l else if dD l=true then 6 else 0
theorem dM {k:Krn}{l:List Plc}(h:aX k l=0):bJ k=0/\RY l=0/\dD l=false/\iB k l=0:=by
 unfold aX at h
 split at h
 ·contradiction
 ·rename_i h1
  split at h
  ·contradiction
  ·rename_i h2
   split at h
   ·cases h
   ·rename_i h3
    have h2':RY l=0:=by omega
    refine⟨by omega,h2',by simpa using h3,?_⟩
    obtain⟨h8,hall,_⟩:=cZ h2'
    unfold iB
    rw[if_neg (by omega)]
    unfold bY
    rw[if_neg (by omega)]
    refine TV (fun x hx=>?_)
    obtain⟨e1,e2⟩:=hall x hx
    have:=gK e1
    simp only[kE,Bool.and_eq_true,decide_eq_true_eq]at e2
    exact⟨e1,by simp only[P9,Bool.and_eq_true,decide_eq_true_eq];omega⟩
def bV (x:Plc):Int:=4096+64*x.first
def iX (at_:List Int)(base:Int)(p:Pat):Int:=if p.sym<0 then base else at_.getD p.sym.toNat 0
def bH (at_:List Int)(base:Int):List Pat->ByteArray->ByteArray×Int
 | [],s=>(s,0)
 |p::r,s=>if RO s.size p.kind p.at_ p.add (iX at_ base p) base≠0 then(⟨#[]⟩,RO s.size p.kind p.at_ p.add (iX at_ base p) base)
  else bH at_ base r (bS s p.kind p.at_ p.add (iX at_ base p) base)
def pad (n:Nat)(s:Tx):Tx:=s++List.replicate (n -s.length) 255
def fE (k:Krn)(l:List Plc)(x:Plc):Tx×Int:=
 if(aN k l x.m.im).2≠0 then([],(aN k l x.m.im).2)
 else if(bH (aN k l x.m.im).1 (bV x) x.m.pa x.m.text).2≠0 then([],(bH (aN k l x.m.im).1 (bV x) x.m.pa x.m.text).2)
 else(pad (64*(aH x.m).toNat) (tx (bH (aN k l x.m.im).1 (bV x) x.m.pa x.m.text).1),0)
def bU (k:Krn)(l:List Plc):List Plc->Int->Tx×Int
 | [],at_=>(List.replicate (64*(16 -at_)).toNat 255,0)
 |x::r,at_=>if(fE k l x).2≠0 then([],(fE k l x).2)else
  if(bU k l r (aR x)).2≠0 then([],(bU k l r (aR x)).2)else(List.replicate (64*(x.first -at_)).toNat 255++(fE k l x).1++(bU k l r (aR x)).1,0)
def iP (k:Krn)(l:List Plc):Int:=if aX k l≠0 then aX k l else(bU k l l 0).2
def TL (k:Krn)(l:List Plc):Tx:=if aX k l≠0 then[]else(bU k l l 0).1
theorem Rz {s:ByteArray}{kind at_ add sym base:Int}(h:RO s.size kind at_ add sym base=0):(bS s kind at_ add sym base).size=s.size:=by
 unfold bS
 rw[if_pos h]
 have hw:aK kind≠0:=by intro e;unfold RO at h;rw[if_pos e]at h;omega
 have h2:¬(add<0\/65535<add\/at_<0\/s.size -aK kind<at_\/base<0\/65279<base):=by
  intro e;unfold RO at h;rw[if_neg hw,if_pos e]at h;omega
 have hr:=xO kind hw
 exact Fy s _ _ _ (by omega)
theorem tF {at_:List Int}{base:Int}:∀{r:List Pat}{s:ByteArray},(bH at_ base r s).2=0->(bH at_ base r s).1.size=s.size
 | [],s,_=>rfl
 |p::r,s,h=>by
  unfold bH at h ⊢
  by_cases e:RO s.size p.kind p.at_ p.add (iX at_ base p) base=0
  ·rw[if_neg (by omega)]at h ⊢
   rw[tF h,Rz e]
  ·rw[if_pos e]at h;exact absurd h e
theorem Jo {n:Nat}{s:Tx}(h:s.length<=n):(pad n s).length=n:=by
 unfold pad;rw[GZ8,List.length_replicate];omega
theorem xC (m:Mod):(m.text.size:Int)<=64*aH m/\64*aH m<m.text.size+64/\0<=aH m:=by
 unfold aH;omega
theorem wH {k:Krn}{l:List Plc}{x:Plc}(h:(fE k l x).2=0):((fE k l x).1.length:Int)=64*aH x.m:=by
 obtain⟨h1,h2,h3⟩:=xC x.m
 unfold fE at h ⊢
 split at h
 ·contradiction
 ·rename_i e1
  split at h
  ·contradiction
  ·rename_i e2
   rw[if_neg e1,if_neg e2]
   have:=tF (show(bH (aN k l x.m.im).1 (bV x) x.m.pa x.m.text).2=0 by omega)
   show((pad _ _).length:Int)=_
   rw[Jo]
   ·omega
   ·show(bH (aN k l x.m.im).1 (bV x) x.m.pa x.m.text).1.size<=_
    omega
end
section
open Go
open Gs (Tx)
theorem tQ {q:Plc->Bool}:∀{l:List Plc},(∀x∈l,aL x.m=0/\q x=true)->fU q l=0
 | [],_=>rfl
 |x::l,h=>by
  unfold fU
  have h1:=h x (by simp)
  rw[if_neg (by omega),if_neg (by simp[h1.2])]
  exact tQ (fun y hy=>h y (List.mem_cons_of_mem _ hy))
theorem I9 {l:List Plc}(h8:l.length<=8)(h:∀x∈l,aL x.m=0)(hn:(txs l).Nodup):Dh l=0:=by
 have e1:bY PX l=0:=by unfold bY;rw[if_neg (by omega)];exact tQ (fun x hx=>⟨h x hx,rfl⟩)
 have e2:¬dD l=true:=fun e=>by rw[SQ]at e;exact e hn
 unfold Dh;rw[e1,if_neg e2];rfl
end
section
open Go
open Gs (Tx)
def aZ (k:Krn)(l:List Plc):Int:=if aX k l≠0 then aX k l else if eH l=true then 4 else(bU k l l 0).2
theorem Sz {k:Krn}{l:List Plc}(h:aZ k l=0):aX k l=0/\eH l=false/\(bU k l l 0).2=0:=by
 unfold aZ at h
 by_cases h1:aX k l=0
 ·rw[if_neg (by omega)]at h
  cases h2:eH l
  ·rw[h2,if_neg (by simp)]at h;exact⟨h1,rfl,h⟩
  ·rw[h2,if_pos rfl]at h;omega
 ·rw[if_pos h1]at h;exact absurd h h1
theorem Pt {k:Krn}{l:List Plc}(h:aX k l=0):Dh l=0:=by
 have h1:=dM h
 exact I9 (cZ h1.2.1).1 (fun x hx=>((cZ h1.2.1).2.1 x hx).1) (xE h1.2.2.1)
theorem Fg {k:Krn}{l:List Plc}(h:aX k l=0):(rT l).isSome=!eH l:=by
 rw[JJ (Pt h)]
 cases eH l<;>simp
def Mod.bare (m:Mod):Mod:={m with eA:=none,eC:=0,iA:=none,iC:=0,pA:=none,pC:=0}
def Plc.bare (x:Plc):Plc:=⟨x.m.bare,x.first⟩
def Krn.bare (k:Krn):Krn:={k with eA:=none,eC:=0}
abbrev aD (l:List Plc):List Plc:=l.map Plc.bare
section
variable (m:Mod) (x:Plc) (k:Krn) (l:List Plc)
theorem GK :bJ k.bare=bJ k:=rfl
theorem Gj :txs (aD l)=txs l:=by unfold txs aD;rw[List.map_map];rfl
theorem mO :(aD l).length=l.length:=by simp[aD]
theorem wD {q:Plc->Bool}(hq:∀x,q (Plc.bare x)=q x):∀l,fU q (aD l)=fU q l
 | []=>rfl
 |x::l=>by
  show fU q (x.bare::aD l)=_
  unfold fU
  rw[hq x,wD hq l];rfl
theorem EZ {q:Plc->Bool}(hq:∀x,q (Plc.bare x)=q x):bY q (aD l)=bY q l:=by
 unfold bY;rw[mO,wD hq]
theorem yE :∀l,iI (aD l)=iI l
 | []=>rfl
 | [_]=>rfl
 |x::y::l=>by
  show(if y.bare.first<aR x.bare then 4 else iI (aD (y::l)))=_
  rw[yE (y::l)];rfl
theorem qW :RY (aD l)=RY l:=by
 unfold RY;rw[EZ l (fun _=>rfl),yE]
theorem El :dD (aD l)=dD l:=by
 unfold dD;rw[Gj,mO]
theorem EH :aX k.bare (aD l)=aX k l:=by
 unfold aX;rw[GK,qW,El]
theorem La :kV (aD l)=kV l:=by
 funext i j
 unfold kV
 rw[Gj,List.getElem?_map]
 cases l[i]?<;>rfl
theorem EK :eH (aD l)=eH l:=by
 unfold eH yP;rw[La,mO]
theorem xZ (nm:ByteArray):∀l,(aD l).find? (named nm)=(l.find? (named nm)).map Plc.bare
 | []=>rfl
 |x::l=>by
  show(x.bare::aD l).find? (named nm)=_
  rw[List.find?_cons,List.find?_cons,xZ nm l]
  have:named nm x.bare=named nm x:=rfl
  rw[this]
  cases named nm x<;>rfl
theorem H7 (i:Imp):addrOf k.bare (aD l) i=addrOf k l i:=by
 unfold addrOf
 rw[xZ]
 cases l.find? (named i.mod)<;>rfl
theorem wW :∀r,aN k.bare (aD l) r=aN k l r
 | []=>rfl
 |i::r=>by unfold aN;rw[H7,wW r]
theorem JU :fE k.bare (aD l) x.bare=fE k l x:=by
 unfold fE
 have h:aN k.bare (aD l) x.bare.m.im=aN k l x.m.im:=wW k l x.m.im
 rw[h];rfl
theorem nP :∀r a,bU k.bare (aD l) (aD r) a=bU k l r a
 | [],_=>rfl
 |x::r,a=>by
  show bU k.bare (aD l) (x.bare::aD r) a=_
  unfold bU
  have h:aR x.bare=aR x:=rfl
  rw[JU,h,nP r];rfl
theorem zZ :aZ k.bare (aD l)=aZ k l:=by
 unfold aZ;rw[EH,EK,nP]
end
theorem kQ {k k':Krn}{l l':List Plc}(hk:k.bare=k'.bare)(hl:aD l=aD l'):aZ k l=aZ k' l':=by
 rw[<-zZ k l,hk,hl,zZ]
end
section
open Go.RowKit Go.Sort
open Gs (Tx)
abbrev bs (t:Tx):ByteArray:=⟨t.toArray⟩
theorem Qx (s:ByteArray):bs (tx s)=s:=Qt s
theorem Nh (t:Tx):tx (bs t)=t:=Qr t
def TR (w:World)(base:Nat)(v:Value)(ss:List Tx):Prop:=dA w base v (ss.map bs)
theorem N9 (ss:List Tx):ss.map encStr=(ss.map bs).map Value.string:=by rw[List.map_map];rfl
theorem TR.own {w:World}{base:Nat}{v:Value}{ss:List Tx}(h:TR w base v ss):w.ownsRow base 9 1 v ss.length (ss.map encStr):=by
 have:=h;unfold TR dA at this;rw[List.length_map]at this;rw[N9];exact this
theorem TR.of_own {w:World}{base n:Nat}{v:Value}{ss:List Tx}(h:w.ownsRow base 9 1 v n (ss.map encStr)):TR w base v ss:=by
 have hn:n=ss.length:=by have:=h.1;simp at this;exact this.symm
 subst hn
 unfold TR dA;rw[List.length_map,<-N9];exact h
theorem TR.nil (w:World)(base:Nat):TR w base (.slice none 0 0) []:=dA.nil _ _
theorem TR.form {w:World}{base:Nat}{v:Value}{ss:List Tx}(h:TR w base v ss):∃(A:Option Addr)(c:Nat),v=.slice A ss.length c/\Row strCells 1 w A (ss.map bs):=by
 obtain⟨A,c,e,hr,_⟩:=dA.form h
 rw[List.length_map]at e
 exact⟨A,c,e,hr⟩
theorem TR.below {w w':World}{base B:Nat}{v:Value}{ss:List Tx}(h:TR w base v ss)(hb:Below B w w')(hB:w.heap.size<=B):TR w' base v ss:=dA.below h hb hB
theorem TR.alloc {w:World}{base:Nat}{v:Value}{ss:List Tx}(h:TR w base v ss)(o:Obj):TR (w.alloc o) base v ss:=by unfold TR dA at*;exact h.alloc o
theorem TR.lt {w:World}{base:Nat}{v:Value}{ss:List Tx}(h:TR w base v ss):∀g,v.ownBlock=some g->base<=g/\g<w.heap.size:=fun g hg=>World.ownsRow.lt h g hg
theorem TR.kept {w w':World}{base:Nat}{v:Value}{ss:List Tx}{row:Option Nat}(h:TR w base v ss)(hg:w.grownBy w' row)(hne:v.ownBlock=none\/v.ownBlock≠row):TR w' base v ss:=World.ownsRow.kept h hg hne
theorem TR.more {w:World}{base base':Nat}{v:Value}{ss:List Tx}(h:TR w base v ss)(hB:base'<=base):TR w base' v ss:=by
 refine⟨h.1,?_⟩
 rcases h.2 with h0|⟨g,cap,cur,e1,e2,e3⟩
 ·exact .inl h0
 ·exact .inr ⟨g,cap,cur,e1,by omega,e3⟩
abbrev Hl (w:World)(A:Option Addr)(ss:List Tx):Prop:=Row strCells 1 w A (ss.map bs)
theorem MU {w w':World}{A:Option Addr}{ss:List Tx}(h:Hl w A ss)(hb:Below w.heap.size w w')(i:Nat)(hi:i<ss.length):
  ∃ad,A=some ad/\ad.block<w.heap.size/\w'.cell? (ad.add i)=some (.string (bs ss[i])):=by
 obtain⟨ad,e,hab,hc⟩:=nT h hb i (by simpa using hi)
 rw[List.getElem_map]at hc
 exact⟨ad,e,hab,hc⟩
theorem Ct (W:World){ops:Array Oper}{rest:List Oper}{o:Oper}{a:Act}{Q:Exit->Act->World->Prop}(hgd:o.guard=none)(s x:Operand)
  (ho:o.op=.call {callee:=.builtin .append,args:=#[s,x],argTypes:=#[27,27]}) (base:Nat) (v:Value) (ss:List Tx) (n:ByteArray) (hs:a.eval s=v)
  (hx:a.eval x=.slice (some ⟨W.heap.size,0,none⟩) 1 1) (hown:TR W base v ss) (hl:ss.length<=1000000) (hbase:base<=W.heap.size)
  (h:∀v' w',TR w' base v' (ss++[tx n])->Below base W w'->wpList Tryz.prog ops Q rest (a.put o.dst v') w'):wpList Tryz.prog ops Q (o::rest) a (W.alloc (.cells #[.string n] 9)):=
 JX W hgd s x ho base v (ss.map bs) n hs hx hown (by simpa using hl) hbase (fun v' w' h1 h2=>h v' w' (by unfold TR;rw[List.map_append,List.map_cons,List.map_nil,Qx];exact h1) h2)
theorem kM {w w':World}(h:Below w.heap.size w w')(row:Option Nat):w.grownBy w' row:=⟨h.os,h.tape,h.output,h.size,fun k hk _=>h.block k hk⟩
end
section
open Go
open Gs (Tx)
def Rj :Int->List Plc->Option (List Plc)
 |_,[]=>none
 |a,x::l=>if a<x.first then some (⟨x.m,a⟩::l)else(Rj (aR x) l).map (x:: ·)
def bI :Int->List Plc->List Plc×Nat
 |_,[]=>([],0)
 |a,x::l=>(⟨x.m,a⟩::(bI (a+aH x.m) l).1,(bI (a+aH x.m) l).2+if x.first=a then 0 else 1)
theorem Uh :∀{l:List Plc}{a:Int},bW a l->Rj a l=none->bI a l=(l,0)
 | [],_,_,_=>rfl
 |x::l,a,⟨h1,h2,h3,h4⟩,h=>by
  unfold Rj at h
  by_cases e:a<x.first
  ·rw[if_pos e]at h;cases h
  ·rw[if_neg e]at h
   have ea:x.first=a:=by omega
   have h5:Rj (aR x) l=none:=by
    cases h6:Rj (aR x) l
    ·rfl
    ·rw[h6]at h;cases h
   have h7:=Uh h4 h5
   unfold bI
   have e2:a+aH x.m=aR x:=by unfold aR;omega
   rw[e2,h7,if_pos ea]
   show((⟨x.m,a⟩::l:List Plc),0+0)=_
   rw[<-ea]
theorem xS :∀{l l':List Plc}{a:Int},bW a l->Rj a l=some l'->bW a l'/\bI a l=((bI a l').1,(bI a l').2+1)
 | [],_,_,_,h=>by cases h
 |x::l,l',a,⟨h1,h2,h3,h4⟩,h=>by
  unfold Rj at h
  by_cases e:a<x.first
  ·rw[if_pos e]at h
   obtain rfl:=GY3 h
   refine⟨⟨by simp,h2,h3,h4.lower (by unfold aR;simp only;omega)⟩,?_⟩
   unfold bI
   rw[if_neg (by omega)]
   simp
  ·rw[if_neg e]at h
   have ea:x.first=a:=by omega
   cases h6:Rj (aR x) l with
   |none=>rw[h6]at h;cases h
   |some r=>
    rw[h6]at h
    obtain rfl:=GY3 h
    obtain⟨k1,k2⟩:=xS h4 h6
    refine⟨⟨h1,h2,h3,k1⟩,?_⟩
    have e2:a+aH x.m=aR x:=by unfold aR;omega
    show bI a (x::l)=((bI a (x::r)).1,_)
    unfold bI
    rw[e2,k2,if_pos ea];simp
theorem FK :∀{l:List Plc}{a:Int},(bI a l).2<=l.length
 | [],_=>GZ3 _
 |x::l,a=>by
  unfold bI
  have:=FK (l:=l) (a:=a+aH x.m)
  rw[GY8]
  show(bI (a+aH x.m) l).2+_<=_
  split<;>omega
theorem Uj :∀{l:List Plc}{a:Int},(bI a l).1.map (·.m)=l.map (·.m)
 | [],_=>rfl
 |x::l,a=>by
  show x.m::(bI (a+aH x.m) l).1.map (·.m)=_
  rw[Uj];rfl
theorem rM :∀{l l':List Plc}{a:Int},Rj a l=some l'->l'.map (·.m)=l.map (·.m)
 | [],_,_,h=>by cases h
 |x::l,l',a,h=>by
  unfold Rj at h
  by_cases e:a<x.first
  ·rw[if_pos e]at h
   obtain rfl:=GY3 h
   rfl
  ·rw[if_neg e]at h
   cases h6:Rj (aR x) l with
   |none=>rw[h6]at h;cases h
   |some r=>
    rw[h6]at h
    obtain rfl:=GY3 h
    show x.m::r.map (·.m)=_
    rw[rM h6];rfl
theorem Fa :∀{l:List Plc}{a:Int},bW a l->bW a (bI a l).1
 | [],_,h=>h
 |x::l,a,⟨h1,h2,h3,h4⟩=>by
  refine⟨by simp,h2,h3,?_⟩
  have:=Fa (h4.lower (b:=a+aH x.m) (by unfold aR;omega))
  exact this
theorem KG {l l':List Plc}(h:l.map (·.m)=l'.map (·.m))(i:Nat):(l[i]?).map (·.m)=(l'[i]?).map (·.m):=by
 have:=congrArg (·[i]?) h
 simpa using this
theorem kL {l l':List Plc}(h:l.map (·.m)=l'.map (·.m)):l.length=l'.length:=by
 have:=congrArg List.length h
 simpa using this
theorem IK {l l':List Plc}(h:l.map (·.m)=l'.map (·.m)):txs l=txs l':=by
 have e:∀r:List Plc,txs r=(r.map (·.m)).map fun m=>tx m.name:=fun r=>by unfold txs;rw[List.map_map];rfl
 rw[e,e,h]
theorem Km {l l':List Plc}(h:l.map (·.m)=l'.map (·.m)):kV l=kV l':=by
 funext i k
 have:=KG h i
 unfold kV
 rw[IK h]
 cases h1:l[i]?<;>cases h2:l'[i]?<;>rw[h1,h2]at this
 ·cases this
 ·cases this
 ·have:=GY3 this
  simp only[this]
theorem Ej {l l':List Plc}(h:l.map (·.m)=l'.map (·.m)):eH l=eH l':=by
 unfold eH yP;rw[Km h,kL h]
theorem FD {l l':List Plc}(h:l.map (·.m)=l'.map (·.m)):dD l=dD l':=by
 unfold dD;rw[IK h,kL h]
theorem Du :∀{l l':List Plc},l.map (·.m)=l'.map (·.m)->∀nm,(l.find? (named nm)=none/\l'.find? (named nm)=none)\/∃x∈l,∃x'∈l',x.m=x'.m/\l.find? (named nm)=some x/\l'.find? (named nm)=some x'
 | [],[],_,_=>.inl ⟨rfl,rfl⟩
 | [],_::_,h,_=>by cases h
 |_::_,[],h,_=>by cases h
 |x::l,x'::l',h,nm=>by
  rw[List.map_cons,List.map_cons]at h
  injection h with h1 h2
  have hq:named nm x'=named nm x:=by unfold named;rw[h1]
  rw[List.find?_cons,List.find?_cons,hq]
  cases hn:named nm x
  ·rcases Du h2 nm with h3|⟨y,hy,y',hy',h3,h4,h5⟩
   ·exact .inl h3
   ·exact .inr ⟨y,List.mem_cons_of_mem _ hy,y',List.mem_cons_of_mem _ hy',h3,h4,h5⟩
  ·exact .inr ⟨x,List.mem_cons_self ..,x',List.mem_cons_self ..,h1,rfl,rfl⟩
def Alike (a b:Int):Prop:=0<=a/\a<=65535/\0<=b/\b<=65535/\(b -a) % 2=0
theorem H9 {l:List Exp}{nm:ByteArray}{most:Int}(h:∀x∈l,0<=x.at_/\x.at_<most)(h0:0<most):0<=(iR l nm).1/\(iR l nm).1<most:=by
 unfold iR
 cases e:l.find? (called nm)with
 |none=>exact⟨Int.le_refl _,h0⟩
 |some x=>exact h x (List.mem_of_find?_eq_some e)
theorem JP {k:Krn}{l l':List Plc}(h:l.map (·.m)=l'.map (·.m))(hk:∀x∈k.ex,0<=x.at_/\x.at_<4096)(hm:∀x∈l,∀y∈x.m.ex,0<=y.at_/\y.at_<256)(hf:∀x∈l,0<=x.first/\x.first<=15)(hf':∀x∈l',0<=x.first/\x.first<=15)(i:Imp):
  (addrOf k l' i).2=(addrOf k l i).2/\Alike (addrOf k l i).1 (addrOf k l' i).1:=by
 unfold addrOf
 by_cases h0:i.mod=RG
 ·rw[if_pos h0,if_pos h0]
  refine⟨rfl,?_⟩
  split
  ·exact⟨by simp,by simp,by simp,by simp,by simp⟩
  ·have:=H9 (nm:=i.name) hk (by omega)
   exact⟨by omega,by omega,by omega,by omega,by omega⟩
 ·rw[if_neg h0,if_neg h0]
  rcases Du h i.mod with⟨h1,h2⟩|⟨x,hx,x',hx',h1,h2,h3⟩
  ·rw[h1,h2]
   exact⟨rfl,by simp,by simp,by simp,by simp,by simp⟩
  ·rw[h2,h3]
   simp only[<-h1]
   have f1:=hf x hx
   have f2:=hf' x' hx'
   have f3:=H9 (nm:=i.name) (hm x hx) (by omega)
   split
   ·exact⟨rfl,by simp,by simp,by simp,by simp,by simp⟩
   ·split
    ·exact⟨rfl,by simp,by simp,by simp,by simp,by simp⟩
    ·refine⟨rfl,?_⟩
     show Alike (4096+64*x.first+_) (4096+64*x'.first+_)
     exact⟨by omega,by omega,by omega,by omega,by omega⟩
def Ey :List Int->List Int->Prop
 | [],[]=>True
 |a::l,b::r=>Alike a b/\Ey l r
 |_,_=>False
theorem D9 :∀{l r:List Int}(i:Nat),Ey l r->Alike (l.getD i 0) (r.getD i 0)
 | [],[],i,_=>by simp[Alike]
 |a::l,b::r,0,h=>by simpa using h.1
 |a::l,b::r,i+1,h=>by simpa using D9 i h.2
 | [],_::_,_,h=>h.elim
 |_::_,[],_,h=>h.elim
theorem VD {k:Krn}{l l':List Plc}(hh:∀i,(addrOf k l' i).2=(addrOf k l i).2/\Alike (addrOf k l i).1 (addrOf k l' i).1):∀r,(aN k l r).2=0->(aN k l' r).2=0/\Ey (aN k l r).1 (aN k l' r).1
 | [],_=>⟨rfl,trivial⟩
 |i::r,h=>by
  obtain⟨h1,h2⟩:=hh i
  unfold aN at h ⊢
  by_cases e1:(addrOf k l i).2=0
  ·rw[if_neg (by omega)]at h
   by_cases e2:(aN k l r).2=0
   ·obtain⟨h3,h4⟩:=VD hh r e2
    rw[if_neg (by omega),if_neg (by omega),if_neg (by omega),if_neg (by omega)]
    exact⟨rfl,h2,h4⟩
   ·rw[if_pos e2]at h;exact absurd h e2
  ·rw[if_pos e1]at h;exact absurd h e1
theorem GD {z kind at_ add s s' b b':Int}(hs:Alike s s')(hb:(b' -b) % 2=0)(h0:4096<=b'/\b'<=5056)(hz:z<=256)(h:RO z kind at_ add s b=0):RO z kind at_ add s' b'=0:=by
 obtain⟨s1,s2,s3,s4,s5⟩:=hs
 have hw:=Rf kind
 unfold RO RN at h ⊢
 by_cases e1:aK kind=0
 ·rw[if_pos e1]at h;omega
 ·rw[if_neg e1]at h ⊢
  by_cases e2:add<0\/65535<add\/at_<0\/z -aK kind<at_\/b<0\/65279<b
  ·rw[if_pos e2]at h;omega
  ·rw[if_neg e2,if_neg e1]at h
   rw[if_neg (by omega),if_neg e1]
   by_cases e3:s<0\/65535<s\/b+at_<0\/65535<b+at_\/add<0\/65535<add
   ·rw[if_pos e3]at h;omega
   ·rw[if_neg e3]at h
    rw[if_neg (by omega)]
    by_cases e4:kind=5/\(s+add -(b+at_)) % 2=1
    ·rw[if_pos e4]at h;omega
    ·rw[if_neg (by omega)]
theorem yL {av av':List Int}{b b':Int}(ha:Ey av av')(hb:(b' -b) % 2=0)(h1:0<=b/\b<=65535)(h0:4096<=b'/\b'<=5056):∀{r:List Pat}{s s':ByteArray},s.size<=256->s'.size=s.size->(bH av b r s).2=0->(bH av' b' r s').2=0
 | [],_,_,_,_,_=>rfl
 |p::r,s,s',hz,hs,h=>by
  unfold bH at h ⊢
  by_cases e:RO s.size p.kind p.at_ p.add (iX av b p) b=0
  ·rw[if_neg (by omega)]at h
   have hy:Alike (iX av b p) (iX av' b' p):=by
    unfold iX
    by_cases k:p.sym<0
    ·rw[if_pos k,if_pos k];exact⟨by omega,by omega,by omega,by omega,by omega⟩
    ·rw[if_neg k,if_neg k];exact D9 _ ha
   have e':RO s'.size p.kind p.at_ p.add (iX av' b' p) b'=0:=by rw[hs];exact GD hy hb h0 (by omega) e
   rw[if_neg (by omega)]
   exact yL ha hb h1 h0 (by rw[Rz e];exact hz) (by rw[Rz e',Rz e,hs]) h
  ·rw[if_pos e]at h;exact absurd h e
theorem ML {k:Krn}{l l':List Plc}(hh:∀i,(addrOf k l' i).2=(addrOf k l i).2/\Alike (addrOf k l i).1 (addrOf k l' i).1){x x':Plc}(hx:x.m=x'.m)(h1:0<=x.first/\x.first<=15)(h2:0<=x'.first/\x'.first<=15)(hz:x.m.text.size<=256)(h:(fE k l x).2=0):(fE k l' x').2=0:=by
 unfold fE at h ⊢
 rw[<-hx]
 by_cases e1:(aN k l x.m.im).2=0
 ·rw[if_neg (by omega)]at h
  obtain⟨e2,e3⟩:=VD hh _ e1
  rw[if_neg (by omega)]
  by_cases e4:(bH (aN k l x.m.im).1 (bV x) x.m.pa x.m.text).2=0
  ·have b1:bV x=4096+64*x.first:=rfl
   have b2:bV x'=4096+64*x'.first:=rfl
   rw[if_neg (fun q=>q (yL e3 (by omega) (by omega) (by omega) hz rfl e4))]
  ·rw[if_pos e4]at h;exact absurd h e4
 ·rw[if_pos e1]at h;exact absurd h e1
theorem Aq {k:Krn}{l:List Plc}:∀{r:List Plc}{a:Int},(bU k l r a).2=0↔∀x∈r,(fE k l x).2=0
 | [],_=>by simp[bU]
 |x::r,a=>by
  unfold bU
  by_cases e:(fE k l x).2=0
  ·rw[if_neg (by omega)]
   have:=Aq (k:=k) (l:=l) (r:=r) (a:=aR x)
   constructor
   ·intro h
    by_cases e2:(bU k l r (aR x)).2=0
    ·intro y hy
     rcases List.mem_cons.1 hy with rfl|hy
     ·exact e
     ·exact this.1 e2 y hy
    ·rw[if_pos e2]at h;exact absurd h e2
   ·intro h
    rw[if_neg (fun q=>q (this.2 fun y hy=>h y (List.mem_cons_of_mem _ hy)))]
  ·rw[if_pos e]
   exact⟨fun h=>absurd h e,fun h=>absurd (h x (List.mem_cons_self ..)) e⟩
theorem rQ {l:List Plc}(h:RY l=0):∀x∈l,0<=x.first/\x.first<=15:=fun x hx=>by
 obtain⟨h1,h2⟩:=(cZ h).2.1 x hx
 have:=gK h1
 simp only[kE,Bool.and_eq_true,decide_eq_true_eq]at h2
 omega
theorem oF {l l':List Plc}(h:l.map (·.m)=l'.map (·.m)){x:Plc}(hx:x∈l'):∃y∈l,y.m=x.m:=by
 have:x.m∈l.map (·.m):=by rw[h];exact List.mem_map_of_mem hx
 obtain⟨y,hy,e⟩:=List.mem_map.1 this
 exact⟨y,hy,e⟩
theorem GV {k:Krn}{l l':List Plc}(h:aZ k l=0)(hm:l.map (·.m)=l'.map (·.m))(hr:bW 0 l'):aZ k l'=0:=by
 obtain⟨h1,h2,h3⟩:=Sz h
 obtain⟨k1,k2,k3,_⟩:=dM h1
 have r0:=cZ k2
 have hf':∀x∈l',0<=x.first/\aR x<=16:=by
  have:∀{r:List Plc}{a:Int},bW a r->∀x∈r,a<=x.first/\aR x<=16:=by
   intro r
   induction r with
   |nil=>intro a _ x hx;cases hx
   |cons y r ih=>
    intro a ⟨g1,g2,g3,g4⟩ x hx
    rcases List.mem_cons.1 hx with rfl|hx
    ·exact⟨g1,g4.le⟩
    ·have:=ih g4 x hx
     have e:aR y=y.first+aH y.m:=rfl
     exact⟨by omega,this.2⟩
  exact this hr
 have hreg:RY l'=0:=OJ (by rw[<-kL hm];exact r0.1) (fun x hx=>by
  obtain⟨y,hy,e⟩:=oF hm hx
  obtain⟨f1,f2⟩:=hf' x hx
  have e2:aR x=x.first+aH x.m:=rfl
  refine⟨e▸(r0.2.1 y hy).1,?_⟩
  simp only[kE,Bool.and_eq_true,decide_eq_true_eq]
  omega) hr
 have hl:aX k l'=0:=by
  unfold aX
  rw[k1,hreg,<-FD hm,k3];rfl
 unfold aZ
 rw[if_neg (by omega),<-Ej hm,h2,if_neg (by simp)]
 have hh:=fun i=>JP hm (fun x hx=>(Ee k1 x hx).2) (fun x hx y hy=>by
  have q:=aY (r0.2.1 x hx).1
  have q3:=q.2.2.1
  have:=lJ q.2.2.2.2.2.2.2.2.1 y hy
  omega) (rQ k2) (rQ hreg) i (k:=k)
 refine Aq.2 fun x hx=>?_
 have e0:∀i(hi:i<l.length)(hi':i<l'.length),(l[i]).m=(l'[i]).m:=fun i hi hi'=>by
  have:=KG hm i
  rw[GY5 hi,GY5 hi']at this
  exact GY3 this
 obtain⟨i,hi,rfl⟩:=List.getElem_of_mem hx
 have hi2:i<l.length:=by rw[kL hm];exact hi
 exact ML hh (e0 i hi2 hi) (rQ k2 _ (GZ9 _)) (rQ hreg _ (GZ9 _)) (aY (r0.2.1 _ (GZ9 hi2)).1).2.2.1 (Aq.1 h3 _ (GZ9 hi2))
end
section
open Go.RowKit
structure Fl where
 bl:List ByteArray
 a:Option Addr
 c:Nat
abbrev Fl.v (f:Fl):Value:=.agg #[.slice f.a f.bl.length f.c]
structure Fl.ok (f:Fl)(w:World):Prop where
 row:jK w f.a f.bl
 cap:f.bl.length<=f.c
theorem Fl.ok.below {f:Fl}{w w':World}(h:f.ok w)(hb:Below w.heap.size w w'):f.ok w':=⟨h.row.below hb,h.cap⟩
def F5 :Fl:=⟨[],none,0⟩
def Ded.cells (d:Ded):List Value:=[iv d.kind,iv d.at_,iv d.value]
abbrev Ded.v (d:Ded):Value:=.agg #[iv d.kind,iv d.at_,iv d.value]
structure ES (w:World)(A:Option Addr)(l:List Ded):Prop where
 row:Row Ded.cells 3 w A l
 len:l.length<=big
theorem ES.below {w w':World}{A:Option Addr}{l:List Ded}(h:ES w A l)(hb:Below w.heap.size w w'):ES w' A l:=⟨h.row.below hb,h.len⟩
theorem QW {w w':World}{A:Option Addr}{l:List Ded}(h:Row Ded.cells 3 w A l)(hb:Below w.heap.size w w')(i:Nat)(hi:i<l.length):
  ∃ad,A=some ad/\ad.block<w.heap.size/\w'.cell? (ad.add (i*3))=some (iv l[i].kind)/\w'.cell? ⟨(ad.add (i*3)).block,(ad.add (i*3)).off+1,none⟩=some (iv l[i].at_)/\w'.cell? ⟨(ad.add (i*3)).block,(ad.add (i*3)).off+2,none⟩=some (iv l[i].value):=by
 obtain⟨ad,rfl,hab,hc⟩:=Row.at_ (enc:=Ded.cells) (k:=3) (fun _=>rfl) h i hi
 have e0:=hc 0 _ rfl
 rw[add_zero_]at e0
 have hk:∀j u,0<j->(Ded.cells l[i])[j]? =some u->w'.cell? ⟨(ad.add (i*3)).block,(ad.add (i*3)).off+j,none⟩=some u:=fun j u hj hu=>by
  rw[<-add_pos_ _ _ hj]
  exact(hb.cell (by rw[aA,aA];exact hab)).trans (hc j u hu)
 exact⟨ad,rfl,hab,(hb.cell (by rw[aA];exact hab)).trans e0,hk 1 _ (by omega) rfl,hk 2 _ (by omega) rfl⟩
theorem dA.fl {w:World}{base:Nat}{v:Value}{l:List ByteArray}(h:dA w base v l)(hl:l.length<=big)(hs:∀s∈l,s.size<=big):∃f:Fl,v=.slice f.a f.bl.length f.c/\f.bl=l/\f.ok w:=by
 obtain⟨A,c,rfl,hr,hc⟩:=h.form
 exact⟨⟨l,A,c⟩,rfl,rfl,⟨⟨hr,hl,hs⟩,hc⟩⟩
end
section
open Go.RowKit
theorem Ki {w:World}{a:Addr}{v:Value}(h:w.cell? a=some v):a.spot=none:=by
 unfold World.cell? at h
 split at h
 ·split at h
  ·cases h
  ·next hs=>simpa using hs
 ·cases h
theorem BV {w:World}{A:Option Addr}{l:List ByteArray}(h:Row strCells 1 w A l)(hn:0<l.length):∃b off,A=some ⟨b,off,none⟩/\b<w.heap.size/\∀(j:Nat)x,l[j]? =some x->w.cell? ⟨b,off+j,none⟩=some (.string x):=by
 obtain⟨ad,rfl,hab,h0⟩:=nT h (GZ4 _ _) 0 hn
 rw[add_zero_]at h0
 have hs:=Ki h0
 obtain⟨b,off,sp⟩:=ad
 obtain rfl:sp=none:=hs
 refine⟨b,off,rfl,hab,fun j x hx=>?_⟩
 obtain⟨hj,hx⟩:=List.getElem?_eq_some_iff.1 hx
 obtain⟨ad,e,_,hc⟩:=nT h (GZ4 _ _) j hj
 obtain rfl:=GY3 e
 rw[hx]at hc
 rw[<-hc]
 congr 1
 unfold Addr.add
 split
 ·next h=>rw[h,Nat.add_zero]
 ·rfl
theorem Cy (l:List ByteArray):Lib.join (l.map (·.data.toList)) (⟨#[]⟩:ByteArray).data.toList=flat l:=by
 cases l with
 |nil=>rfl
 |cons x l=>
  rw[List.map_cons,Lib.join_cons]
  unfold Lib.joinTail flat
  rw[List.flatMap_cons,List.flatMap_def]
  simp
  rfl
theorem wZ :∀n,Lib.repeatL [255] n=List.replicate n 255
 |0=>rfl
 |n+1=>by rw[Lib.repeatL,wZ n,List.replicate_succ];rfl
theorem Co (A:Option Addr)(l:List ByteArray)(c:Nat)(w:World)(h:Row strCells 1 w A l)(hn:0<l.length)(hl:l.length<=1000000):
  Calls Tryz.prog 149 #[.slice A l.length c] w fun e w'=>Below w.heap.size w w'/\∃(A':Option Addr)(c':Nat),e=.returned (.slice A' l.length c')/\l.length<=c'/\dA w' w.heap.size (.slice A' l.length c') l:=by
 obtain⟨b,off,rfl,hb,hc⟩:=BV h hn
 have hs:=Tryz.slices_Clone_string b off l.length c l w (GZ3 _) (by omega) (fun j hj=>by
  refine hc j _ ?_
  rw[List.getD_eq_getElem?_getD,GY5 hj];rfl)
 refine Calls.mono hs ?_
 rintro e w' ⟨v,he,ho,_,hb'⟩
 rw[List.take_of_length_le (GZ3 _)]at ho
 obtain⟨A',c',hv,_,hc'⟩:=dA.form (show dA w' w.heap.size v l from ho)
 subst hv
 exact⟨hb',A',c',he,hc',ho⟩
theorem Lc (w:World):Calls Tryz.prog 148 #[] w fun e w'=>e=.returned (.string blank)/\Below w.heap.size w w':=by
 have cR:=Hp (fun W=>Tryz.strings_Repeat ⟨#[255]⟩ 128 W (by decide) (by decide))
 have hb:(⟨(Lib.repeatL (⟨#[255]⟩:ByteArray).data.toList 128).toArray⟩:ByteArray)=blank:=by
  show(⟨(Lib.repeatL [255] 128).toArray⟩:ByteArray)=_
  rw[wZ];rfl
 rw[hb]at cR
 obtain⟨B,hB⟩:=Nm blank
 rw[<-hB]at cR ⊢
 clear hB hb
 go_enter Tryz.func148,Tryz.ntmps148
 go_wp2_with (go_at_call 166;refine(cR.out _).mono ?_;rintro e w' ⟨rfl,hb⟩)
 go_ret
 exact⟨rfl,hb⟩
theorem LB (f:Fl)(w:World)(h:f.ok w)(hf:bP f.bl=0):Calls Tryz.prog 167 #[f.v] w fun e w'=>e=.returned (.string (ofBytes (flat f.bl)))/\Below w.heap.size w w':=by
 obtain⟨h1,h2⟩:=fP.1 hf
 obtain⟨b,off,hA,hb,hc⟩:=BV h.row.row (by omega)
 obtain⟨w0,hw0⟩:=Nm (w.alloc (.cells #[.slice f.a f.bl.length f.c] 29))
 obtain⟨f0,hz0,hb0⟩:=Ui hw0
 have hw0':=hw0.symm
 have HB0:=Hp hb0
 have hfl:=mP h2
 have cJ:=Hp (Tryz.strings_Join b off f.c f.bl ⟨#[]⟩ w0 (fun j x hx=>(hb0.cell (p:=⟨b,off+j,none⟩) hb).trans (hc j x hx)) (by omega) (by omega) h.cap (by rw[Cy];omega))
 rw[Cy]at cJ
 rw[hA]at f0 hw0'
 obtain⟨R,hR⟩:=Nm (ofBytes (flat f.bl))
 change Hid (Calls _ _ _ _ fun e w'=>e=.returned (.string (ofBytes (flat f.bl)))/\_)at cJ
 rw[<-hR]at cJ ⊢
 unfold Fl.v
 rw[hA]
 clear hw0 hb0 h hf h1 h2 hfl hR hc hA
 go_enter Tryz.func167,Tryz.ntmps167
 go_wp2_with (go_at_call 228;refine(cJ.out).mono ?_;rintro e w1 ⟨rfl,hb1⟩)
 go_ret
 exact⟨rfl,HB0.trans (hb1.mono (by omega))⟩
theorem Om (c:Nat)(hc:c<=32)(w:World):Calls Tryz.prog 211 #[.int .u64 1,.int .u64 c] w fun e w'=>e=.returned (.tuple #[.int .u64 0,.int .u64 c])/\w=w':=by
 have h:=Tryz.bits_Mul 1 c (by omega) (by omega) w
 have e1:1*c / 18446744073709551616=0:=by omega
 have e2:1*c % 18446744073709551616=c:=by omega
 rw[e1,e2]at h
 exact Calls.mono h fun e w' ⟨he,hw⟩=>⟨he,hw.symm⟩
def filled (s:ByteArray)(c n:Nat):List Value:=List.replicate n (.string s)++List.replicate (c -n) (.string ⟨#[]⟩)
theorem tV {s:ByteArray}{c n:Nat}(h:n<=c):(filled s c n).length=c:=by simp[filled];omega
theorem Hu (s:ByteArray)(c:Nat):madeCells #[Value.string ⟨#[]⟩] c=(filled s c 0).toArray:=by
 apply Array.ext
 ·simp[size_madeCells,filled]
 ·intro i h1 h2
  simp[madeCells,filled,Nat.mod_one]
theorem sV (s:ByteArray)(c n k:Nat)(h:n+k<=c):splice (filled s c n) n (List.replicate k (.string s))=filled s c (n+k):=by
 unfold splice filled
 simp only[List.length_replicate]
 rw[List.take_append_of_le_length (by simp),List.take_of_length_le (by simp),List.drop_append]
 rw[List.drop_eq_nil_of_le (by simp),List.nil_append,List.drop_replicate,List.length_replicate,<-List.append_assoc,List.replicate_append_replicate]
 congr 2
 omega
theorem Ie (s:ByteArray)(c n j:Nat)(h:j<n):(filled s c n)[j]? =some (.string s):=by
 unfold filled
 rw[List.getElem?_append_left (by simpa using h),List.getElem?_replicate,if_pos h]
end
section
open Go.RowKit
theorem cell_of_heap {w:World}{b:Nat}{cs:Array Value}{t:TypeId}{fr:Nat×Nat}(h:w.heap[b]? =some (.cells cs t fr))(o:Nat):w.cell? ⟨b,o,none⟩=cs[o]?:=by simp[World.cell?,h]
theorem aQ {w:World}{b:Nat}{cs:Array Value}{t:TypeId}(h:w.heap[b]? =some (.cells cs t (0,0)))(o:Nat):w.frozen? ⟨b,o,none⟩=false:=by simp[World.frozen?,h]
def u8v (b:UInt8):Value:=.int .u8 (b.toNat:Int)
def BytesAt (w:World)(g:Nat)(l:List UInt8):Prop:=
 ∃cur:Array Value,w.heap[g]? =some (.cells cur 5 (cur.size,cur.size+1))/\l.length<=cur.size/\cur.toList.take l.length=l.map u8v
section
variable {w w':World} {g:Nat} {l:List UInt8}
theorem BytesAt.lt (h:BytesAt w g l):g<w.heap.size:=by
 obtain⟨cur,h1,_⟩:=h
 exact(ZL h1)
theorem BytesAt.kept (h:BytesAt w g l)(e:w'.heap[g]? =w.heap[g]?):BytesAt w' g l:=by
 obtain⟨cur,h1,h2⟩:=h
 exact⟨cur,e.trans h1,h2⟩
theorem BytesAt.cell (h:BytesAt w g l)(j:Nat)(hj:j<l.length):w.cell? ⟨g,j,none⟩=some (.int .u8 ((l[j]'hj).toNat:Int)):=by
 obtain⟨cur,h1,h2,h3⟩:=h
 have h4:(cur.toList.take l.length)[j]? =some (u8v (l[j]'hj)):=by
  rw[h3,List.getElem?_map,GY5 hj];rfl
 rw[List.getElem?_take_of_lt hj]at h4
 simp only[World.cell?,h1]
 simpa[u8v]using h4
theorem BytesAt.QH (h:BytesAt w g l)(j:Nat)(hj:j<l.length):w.cell? ⟨g,j,none⟩=some (.int .u8 ((l.getD j 0).toNat:Int)):=by
 rw[h.cell j hj,List.getD_eq_getElem?_getD,GY5 hj];rfl
theorem BytesAt.free (h:BytesAt w g l)(j:Nat)(hj:j<l.length):w.frozen? ⟨g,j,none⟩=false:=by
 obtain⟨cur,h1,h2,h3⟩:=h
 simp only[World.frozen?,h1]
 simp
 omega
theorem BytesAt.set (h:BytesAt w g l)(j:Nat)(x:UInt8):BytesAt (w.setCell ⟨g,j,none⟩ (.int .u8 (x.toNat:Int))) g (l.set j x):=by
 obtain⟨cur,h1,h2,h3⟩:=h
 refine⟨cur.setIfInBounds j (u8v x),?_,by simpa using h2,?_⟩
 ·simp[World.setCell,Array.getElem?_modify,h1,u8v]
 ·rw[Array.toList_setIfInBounds,List.take_set,List.length_set,h3,List.map_set]
theorem BytesAt.Qv (h:BytesAt w g l)(j:Nat)(n:Nat)(hn:n<256):BytesAt (w.setCell ⟨g,j,none⟩ (.int .u8 (n:Int))) g (l.set j (UInt8.ofNat n)):=by
 have:=h.set j (UInt8.ofNat n)
 rwa [show(UInt8.ofNat n).toNat=n from by simp[Nat.mod_eq_of_lt hn]]at this
theorem CW (s:ByteArray)(cap:Nat):s.size<=(bytesRow s cap).size/\(bytesRow s cap).toList.take s.size=(bytesOf s).map u8v:=by
 obtain⟨d⟩:=s
 show d.size<=_/\List.take d.size _=List.map u8v d.toList
 unfold bytesRow
 constructor
 ·rw[Array.size_append,Array.size_map];exact Nat.le_add_right _ _
 ·rw[Array.toList_append,Array.toList_map]
  rw[List.take_append_of_le_length (by simp),List.take_of_length_le (by simp)]
  rfl
end
theorem UY (s:ByteArray):∃(F:World->World)(C:World->Nat),∀W,(convert 9 135 (.string s)).run Tryz.prog W=.ok (.slice (some ⟨W.heap.size,0,none⟩) s.size (C W)) (F W)/\
  s.size<=C W/\BytesAt (F W) W.heap.size (bytesOf s)/\Below W.heap.size W (F W):=by
 refine⟨fun W=>W.drew.alloc (.cells (bytesRow s (grownCap W s.size 0 5)) 5 ((bytesRow s (grownCap W s.size 0 5)).size,(bytesRow s (grownCap W s.size 0 5)).size+1)),fun W=>grownCap W s.size 0 5,fun W=>⟨run_bytes_of_string (P:=Tryz.prog) W 9 135 5 s Tryz.underlying9 Tryz.underlying135 Tryz.underlying5,grownCap_ge W s.size 0 5,?_,?_⟩⟩
 ·refine⟨bytesRow s (grownCap W s.size 0 5),?_,?_⟩
  ·show(W.heap.push _)[W.heap.size]? =_
   simp
  ·rw[RB];exact CW s _
 ·exact(GZ4 _ _).trans ⟨rfl,rfl,rfl,by show W.heap.size<=(W.heap.push _).size;rw[Array.size_push];exact Nat.le_succ _,fun k hk=>by
   show(W.heap.push _)[k]? =_
   rw[Array.getElem?_push_lt hk,Array.getElem?_eq_getElem hk]⟩
theorem U2 (W:World)(g n cap:Nat)(l:List UInt8)(hl:l.length=n)(hb:BytesAt W g l):
  (convert 135 9 (.slice (some ⟨g,0,none⟩) n cap)).run Tryz.prog W=.ok (.string (ofBytes l)) W:=by
 subst hl
 exact run_convert_bytes_back (P:=Tryz.prog) W 135 9 5 ⟨g,0,none⟩ cap l Tryz.underlying135 Tryz.underlying5 Tryz.underlying9 (fun j hj=>by
  have:=hb.cell j hj
  rw[show(⟨g,0,none⟩:Addr).add j=⟨g,j,none⟩ from by unfold Addr.add;split<;>simp_all]
  exact this)
end
section
open Go.RowKit
theorem jG {w w5:World}{v:Value}{t:TypeId}(h:w5=w.alloc (.cells #[v] t)):w5.cell? ⟨w.heap.size,0,none⟩=some v/\w5.heap[w.heap.size]? =some (.cells #[v] t (0,0))/\w5.heap.size=w.heap.size+1/\Below w.heap.size w w5:=by
 obtain⟨h1,h2,h3⟩:=Ui h
 exact⟨h1,by rw[h];exact heap_alloc_new _ _,h2,h3⟩
theorem Tryz.jI :(Tryz.prog.info? 29).map (·.size)=some 1:=by kernel_rfl
def nV (l:List UInt8)(p:Nat->Nat)(j:Nat):List UInt8:=l.mapIdx fun i x=>if i<j then UInt8.ofNat (x.toNat |||p i)else x
theorem Fu (l:List UInt8)(p:Nat->Nat)(j:Nat):(nV l p j).length=l.length:=by simp[nV]
theorem Kh (l:List UInt8)(p:Nat->Nat):nV l p 0=l:=by
 apply List.ext_getElem
 ·simp[nV]
 ·intro i h1 h2;simp[nV]
theorem OX (l:List UInt8)(p:Nat->Nat):nV l p l.length=Ta l p:=by
 apply List.ext_getElem
 ·simp[nV,Ta]
 ·intro i h1 h2
  have:i<l.length:=by simpa[nV]using h1
  simp[nV,Ta,this]
theorem Mo (l:List UInt8)(p:Nat->Nat)(j:Nat):(nV l p j).getD j 0=l.getD j 0:=by
 rw[List.getD_eq_getElem?_getD,List.getD_eq_getElem?_getD]
 unfold nV
 rw[List.getElem?_mapIdx]
 cases l[j]?<;>simp
theorem LH (l:List UInt8)(p:Nat->Nat)(j:Nat):(nV l p j).set j (UInt8.ofNat ((l.getD j 0).toNat |||p j))=nV l p (j+1):=by
 apply List.ext_getElem
 ·simp[nV]
 ·intro i h1 h2
  have hi:i<l.length:=by simpa[nV]using h2
  rw[List.getElem_set]
  by_cases e:j=i
  ·subst e
   rw[if_pos rfl]
   simp[nV,List.getD_eq_getElem?_getD,GY5 hi]
  ·rw[if_neg e]
   simp only[nV,List.getElem_mapIdx]
   by_cases h:i<j
   ·rw[if_pos h,if_pos (by omega)]
   ·rw[if_neg h,if_neg (by omega)]
theorem dA.more {w:World}{b b':Nat}{v:Value}{l:List ByteArray}(h:dA w b v l)(hb:b'<=b):dA w b' v l:=by
 refine⟨h.1,?_⟩
 rcases h.2 with h0|⟨g,cap,cur,e1,e2,e3,e4⟩
 ·exact .inl h0
 ·exact .inr ⟨g,cap,cur,e1,by omega,e3,e4⟩
theorem J7 (A:Option Addr)(c:Nat)(bl:List ByteArray)(K P V:Int)(g:Nat)(lb:Array Value)(p:Nat->Nat)(w:World)(eg:∀args w,(callFunc g args).run Tryz.prog w=.ok (.enter g args) w)
  (h:jK w A bl) (hf:bP bl=0) (hd:eB bl.length ⟨K,P,V⟩=0)
  (hp:∀i W,i<128->Below w.heap.size w W->Calls Tryz.prog g (#[.int .i64 (i:Int)]++lb) W fun e w'=>e=.returned (.int .u8 (p i:Nat))/\w'=W) (hp8:∀i,p i<256):
  Calls Tryz.prog 98 #[.agg #[.slice A bl.length c],.agg #[.int .i64 K,.int .i64 P,.int .i64 V],.func (.func g) #[] lb] w fun e w'=>Below w.heap.size w w'/\∃(A':Option Addr)(c':Nat),e=.returned (.agg #[.slice A' bl.length c'])/\bl.length<=c'/\dA w' w.heap.size (.slice A' bl.length c') (fB bl ⟨K,P,V⟩ p):=by
 obtain⟨hln,h2⟩:=fP.1 hf
 obtain⟨w1,hw1⟩:=Nm (w.alloc (.cells #[.slice A bl.length c] 29))
 obtain⟨f0,hz1,hb1⟩:=Ui hw1
 obtain⟨w2,hw2⟩:=Nm (w1.alloc (.cells #[.int .i64 K,.int .i64 P,.int .i64 V] 60))
 obtain⟨d0,d1,d2,hz2,hb2⟩:=uE hw2
 obtain⟨w3,hw3⟩:=Nm (w2.alloc (.cells #[.slice none 0 0] 29))
 obtain⟨r0,hz3,hb3⟩:=Ui hw3
 rw[hz1]at d0 d1 d2 hz2 hb2
 rw[hz2]at hz3 hb3 r0
 have k0:=(hb3.cell (p:=⟨w.heap.size,0,none⟩) (by simp;omega)).trans ((hb2.cell (p:=⟨w.heap.size,0,none⟩) (by simp)).trans f0)
 have HB3:=Hp (hb1.trans ((hb2.mono (by omega)).trans (hb3.mono (by omega))))
 have ht3:=h.row.below HB3.out
 have cC:=Hp (Co A bl c w3 ht3 (by omega) (by omega))
 have hR:w3.heap[w.heap.size+1+1]? =some (.cells #[.slice none 0 0] 29 (0,0)):=by
  have:=heap_alloc_new w2 (.cells #[.slice none 0 0] 29)
  rw[hz2]at this
  rw[hw3];exact this
 have HR:=Hp hR
 have e0:=(hb3.cell (p:=⟨w.heap.size+1,0,none⟩) (by simp)).trans d0
 have e1:=(hb3.cell (p:=⟨w.heap.size+1,1,none⟩) (by simp)).trans d1
 have e2:=(hb3.cell (p:=⟨w.heap.size+1,2,none⟩) (by simp)).trans d2
 have hw1':=hw1.symm
 have hw2':=hw2.symm
 have hw3':=hw3.symm
 have HZ3:=Hp hz3
 have HP:=Hp hp
 have HP8:=Hp hp8
 have H2:=Hp h2
 clear hw1 hw2 hw3 hb1 hb2 hb3 f0 d0 d1 d2 r0 hz3 hR hp hp8 h2 h ht3
 rcases xY hd with⟨hk,hn,hj,hP,hV0,hV⟩|⟨hk,hn,hP,hV⟩
 ·simp only at hk hn hj hP hV0 hV
  obtain⟨N,rfl⟩:∃N:Nat,P=N:=⟨P.toNat,by omega⟩
  obtain⟨U,rfl⟩:∃U:Nat,V=U:=⟨V.toNat,by omega⟩
  subst hk
  obtain⟨n,hn'⟩:=Nm bl.length
  rw[<-hn']at cC hw1' k0 hln hn ⊢
  have HN:=Hp hn'
  clear hd hf hV0 hj hP hn'
  obtain⟨q,hq⟩:∃q:Nat,q=N / 128:=⟨_,rfl⟩
  obtain⟨r,hr⟩:∃r:Nat,r=N % 128:=⟨_,rfl⟩
  have hqn:q<n:=by omega
  have hr8:r<128:=by omega
  have q1:N / 128=q:=hq.symm
  have q2:(N:Int) / 128=q:=by omega
  have r1:N % 128=r:=hr.symm
  have r2:(N:Int) % 128=r:=by omega
  have r3:(N:Int).tmod 128=r:=by rw[Int.tmod_eq_emod_of_nonneg (by omega)];exact r2
  obtain⟨s0,hs0⟩:=Nm (bl.getD q ⟨#[]⟩)
  have hsz:s0.size=128:=by rw[hs0];exact H2.out _ (TP (by rw[<-HN.out];exact hqn))
  obtain⟨x,hx⟩:∃x:Nat,x=((bytesOf s0).getD r 0).toNat:=⟨_,rfl⟩
  have hx8:x<256:=by rw[hx];exact kJ _
  have hU8:U<256:=by omega
  have qU:IntKind.u8.wrap (U:Int)=U:=by rw[IntKind.wrap_u8'];omega
  obtain⟨m1,hm1⟩:=Nm (x&&& (255 -U))
  have b1:=u8_andNot_nat x U hx8 hU8
  rw[<-hm1]at b1
  have hm18:m1<256:=by rw[hm1];exact uT hx8
  obtain⟨p0,hp0⟩:=Nm (p 0)
  have hp08:p0<256:=by rw[hp0];exact HP8.out 0
  have h00:((0:Nat):Int)=0:=rfl
  have cP:=Hp (fun W=>HP.out 0 W (by omega))
  rw[h00]at cP
  clear h00
  rw[<-hp0]at cP
  obtain⟨m2,hm2⟩:=Nm (m1&&& p0)
  have b2:=u8_and_nat m1 p0 hm18 hp08
  rw[<-hm2]at b2
  have hm28:m2<256:=by rw[hm2];exact uT hm18
  obtain⟨m3,hm3⟩:=Nm (x&&& (255 -m2))
  have b3:=u8_andNot_nat x m2 hx8 hm28
  rw[<-hm3]at b3
  have hm38:m3<256:=by rw[hm3];exact uT hx8
  have HM:=Hp (show AU x U (p 0)=m3 by rw[hm3,hm2,hm1,hp0];rfl)
  obtain⟨t,ht⟩:=Nm (ofBytes ((bytesOf s0).set r (UInt8.ofNat m3)))
  have HT:=Hp (show fB bl ⟨1,N,U⟩ p=bl.set q t by
   unfold fB IC
   rw[if_pos rfl,ht,<-HM.out,hx,hs0]
   simp only[q2,r2,Int.toNat_natCast])
  have HTT:=Hp ht
  clear ht
  obtain⟨F,C,hFC⟩:=UY s0
  have hcv:=fun W=>(hFC W).1
  rw[hsz]at hcv
  have HFC:=Hp (fun W=>(hFC W).2)
  clear hFC
  have HQ:=Hp hq
  have HRR:=Hp hr
  have HS0:=Hp hs0
  have HX:=Hp hx
  have HX8:=Hp hx8
  have HM38:=Hp hm38
  have hbl:=RB s0
  rw[hsz]at hbl
  have HBL:=Hp hbl
  clear hq hr hs0 hx hx8 hU8 hm1 hm18 hp0 hp08 hm2 hm28 hm3 hm38 hbl
  go_enter Tryz.func98,Tryz.ntmps98
  go_upto_region 5 with(
   go_at_call 149
   refine(cC.out).mono ?_
   rintro e w4 ⟨hb4,A4,c4,rfl,hc4,ho⟩
   obtain⟨g4,rfl,hg4,hl4,hx4,-,-⟩:=ho.at_ HN.out q hqn
   rw[<-HS0.out]at hx4
   obtain⟨w5,hw5⟩:=Nm (w4.alloc (.cells #[.slice (some ⟨g4,0,none⟩) n c4] 29))
   obtain⟨y0,hY5,hz5,hb5⟩:=jG hw5
   have hw5':=hw5.symm
   have hz3:=HZ3.out
   have hz34:=hb4.size
   have HB5:=Hp (hb4.trans (hb5.mono hz34))
   have x0:=(HB5.cell (p:=⟨w.heap.size+1,0,none⟩) (by simp;omega)).trans e0
   have x1:=(HB5.cell (p:=⟨w.heap.size+1,1,none⟩) (by simp;omega)).trans e1
   have hx5:=(hb5.cell (p:=⟨g4,q,none⟩) hl4).trans hx4
   have HO5:=Hp (ho.below hb5 (GZ3 _))
   have HY5:=Hp hY5
   have HZ5:=Hp hz5
   obtain⟨hcap,hB6,hb6⟩:=HFC.out w5
   obtain⟨w6,hw6⟩:=Nm (F w5)
   rw[<-hw6]at hB6 hb6
   have hw6':=hw6.symm
   have hgx:=hB6.QH r (by rw[HBL.out];exact hr8)
   rw[<-HX.out]at hgx
   have hgf:=hB6.free r (by rw[HBL.out];exact hr8)
   have z1:=(hb6.cell (p:=⟨w.heap.size+1,1,none⟩) (by simp;omega)).trans x1
   have z2:=(hb6.cell (p:=⟨w.heap.size+1,2,none⟩) (by simp;omega)).trans ((HB5.cell (p:=⟨w.heap.size+1,2,none⟩) (by simp;omega)).trans e2)
   have HB6:=Hp hB6
   have Hb6:=Hp hb6
   clear hw5 hz3 hz5 hb4 hb5 hY5 ho hx4 hw6 hB6 hb6)
  have HBW:=Hp (HB3.trans ((HB5.trans (Hb6.mono (by have:=HB5.size;omega))).mono (by have:=HZ3.out;omega)))
  have HBD:=Hp (show Below w.heap.size w w6.drew from below_drewN HBW.out 1)
  have hri:(r:Int)<128:=by omega
  have cP6:=Hp (cP.out _ HBD.out)
  have HSET:=Hp (show BytesAt (w6.drew.setCell ⟨w5.heap.size,r,none⟩ (.int .u8 (m3:Int))) w5.heap.size ((bytesOf s0).set r (UInt8.ofNat m3))/\Below w5.heap.size w5 (w6.drew.setCell ⟨w5.heap.size,r,none⟩ (.int .u8 (m3:Int))) from
   ⟨(BytesAt.kept (w':=w6.drew) HB6.out rfl).Qv r m3 HM38.out,(below_drewN Hb6.out 1).setCell (p:=⟨w5.heap.size,r,none⟩) (GZ3 _) _⟩)
  go_cut [9] from 33 to 47 (fun _ wx=>BytesAt wx w5.heap.size ((bytesOf s0).set r (UInt8.ofNat m3))/\Below w5.heap.size w5 wx)
  case first=>
   go_region_with (with_reducible refine(cP6.out).mono ?_;rintro e w' ⟨rfl,rfl⟩)
   all_goals(go_wp2_with fail;go_meet;exact HSET.out)
  case rest=>
   obtain⟨w7,rfl⟩:=Nm wc
   obtain⟨hB7,hb7⟩:=hcut
   have hz3:=HZ3.out
   have hz5:=HZ5.out
   have y7:=(hb7.cell (p:=⟨w4.heap.size,0,none⟩) (by simp;omega)).trans y0
   have x7:=(hb7.cell (p:=⟨w.heap.size+1,1,none⟩) (by simp;omega)).trans x1
   have hback:=U2 w7 w5.heap.size 128 (C w5) _ (by rw[List.length_set];exact HBL.out) hB7
   rw[<-HTT.out]at hback
   obtain⟨g',hg',_,_,hc7,hf7,hs7⟩:=(HO5.below hb7 (GZ3 _)).at_ HN.out q hqn
   obtain rfl:g4=g':=by injection hg' with h;injection h
   obtain⟨w8,hw8⟩:=Nm (w7.setCell ⟨g4,q,none⟩ (.string t))
   have hw8':=hw8.symm
   have hO8:=hs7 t
   rw[hw8']at hO8
   have y8:w8.cell? ⟨w4.heap.size,0,none⟩=some (.slice (some ⟨g4,0,none⟩) n c4):=by
    rw[hw8,World.cell?_setCell_other _ _ _ _ (by intro h;injection h with h;omega)];exact y7
   have hb8:Below w3.heap.size w7 w8:=hw8▸(GZ4 _ _).setCell (p:=⟨g4,q,none⟩) hg4 _
   have hR8:w8.heap[w.heap.size+1+1]? =some (.cells #[.slice none 0 0] 29 (0,0)):=by
    rw[hb8.block _ (by omega),hb7.block _ (by omega),HB5.block _ (by omega)];exact HR.out
   have v0:=cell_of_heap hR8 0
   have vf:=aQ hR8 0
   simp only[GZ2,GZ0]at v0
   have HR8:=Hp hR8
   have HO8:=Hp hO8
   have HB8:=Hp (HB3.trans ((HB5.mono (by omega)).trans ((hb7.mono (by omega)).trans (hb8.mono (by omega)))))
   clear hw8 hB7 hb7 hb8 hR8 hO8 hs7 hz3 hz5
   go_wp2_with fail
   have hR9:(w8.setCell ⟨w.heap.size+1+1,0,none⟩ (.slice (some ⟨g4,0,none⟩) n c4)).heap[w.heap.size+1+1]? =some (.cells #[.slice (some ⟨g4,0,none⟩) n c4] 29 (0,0)):=
    heap_setCell_same w8 (w.heap.size+1+1) 0 _ _ (.slice (some ⟨g4,0,none⟩) n c4) HR8.out
   refine bodyPost_ret (results_cell_row rfl _ _ (w.heap.size+1+1) 29 _ (0,0) _ rfl hR9 Tryz.underlying29 rfl Tryz.jI) rfl ?_
   refine⟨HB8.setCell (p:=⟨w.heap.size+1+1,0,none⟩) (by simp;omega) _,_,_,rfl,hc4,?_⟩
   rw[HT.out]
   have hz3:=HZ3.out
   exact dA.more (ownsRow_setCell_other HO8.out (fun h=>by simp[Value.ownBlock]at h;omega) _) (by omega)
 ·simp only at hk hn hP hV
  obtain⟨q,rfl⟩:∃N:Nat,P=N:=⟨P.toNat,by omega⟩
  subst hk hV
  obtain⟨n,hn'⟩:=Nm bl.length
  rw[<-hn']at cC hw1' k0 hln hn ⊢
  have HN:=Hp hn'
  clear hd hf hP hn'
  have hqn:q<n:=by omega
  obtain⟨s0,hs0⟩:=Nm (bl.getD q ⟨#[]⟩)
  have hsz:s0.size=128:=by rw[hs0];exact H2.out _ (TP (by rw[<-HN.out];exact hqn))
  obtain⟨t,ht⟩:=Nm (ofBytes (Ta (bytesOf s0) p))
  have HT:=Hp (show fB bl ⟨2,q,0⟩ p=bl.set q t by
   unfold fB
   rw[if_neg (show¬((2:Int)=1) by decide),ht,hs0]
   simp only[Int.toNat_natCast])
  have HTT:=Hp ht
  clear ht
  obtain⟨F,C,hFC⟩:=UY s0
  have hcv:=fun W=>(hFC W).1
  rw[hsz]at hcv
  have HFC:=Hp (fun W=>(hFC W).2)
  clear hFC
  have HS0:=Hp hs0
  have hbl:=RB s0
  rw[hsz]at hbl
  have HBL:=Hp hbl
  clear hs0 hbl hn
  go_enter Tryz.func98,Tryz.ntmps98
  go_wp2_with (
   go_at_call 149
   refine(cC.out).mono ?_
   rintro e w4 ⟨hb4,A4,c4,rfl,hc4,ho⟩
   obtain⟨g4,rfl,hg4,hl4,hx4,-,-⟩:=ho.at_ HN.out q hqn
   rw[<-HS0.out]at hx4
   obtain⟨w5,hw5⟩:=Nm (w4.alloc (.cells #[.slice (some ⟨g4,0,none⟩) n c4] 29))
   obtain⟨y0,hY5,hz5,hb5⟩:=jG hw5
   have hw5':=hw5.symm
   have hz3:=HZ3.out
   have hz34:=hb4.size
   have HB5:=Hp (hb4.trans (hb5.mono hz34))
   have x0:=(HB5.cell (p:=⟨w.heap.size+1,0,none⟩) (by simp;omega)).trans e0
   have x1:=(HB5.cell (p:=⟨w.heap.size+1,1,none⟩) (by simp;omega)).trans e1
   have hx5:=(hb5.cell (p:=⟨g4,q,none⟩) hl4).trans hx4
   have HO5:=Hp (ho.below hb5 (GZ3 _))
   have HY5:=Hp hY5
   have HZ5:=Hp hz5
   obtain⟨hcap,hB6,hb6⟩:=HFC.out w5
   obtain⟨w6,hw6⟩:=Nm (F w5)
   rw[<-hw6]at hB6 hb6
   have hw6':=hw6.symm
   have HB6:=Hp hB6
   have Hb6:=Hp hb6
   clear hw5 hz3 hz5 hb4 hb5 hY5 ho hx4 hw6 hB6 hb6)
  have HBW:=Hp (HB3.trans (HB5.mono (by have:=HZ3.out;omega)))
  go_loopw [66] (fun i wr=>∃j:Nat,j<=128/\i=.int .i64 j/\BytesAt wr w5.heap.size (nV (bytesOf s0) p j)/\Below w5.heap.size w5 wr) (fun i _=>128 -(intOf i).toNat)
  case atStart=>exact⟨0,by omega,rfl,by rw[Kh];exact HB6.out,Hb6.out⟩
  case round=>
   obtain⟨j,hj,rfl,hB,hb⟩:=hrel
   by_cases hlt:j<128
   ·have hlt':(j:Int)<128:=by omega
    have hjl:j<(nV (bytesOf s0) p j).length:=by rw[Fu,HBL.out];exact hlt
    have hgx:=hB.QH j hjl
    have hgf:=hB.free j hjl
    rw[Mo]at hgx
    obtain⟨x,hx⟩:∃x:Nat,x=((bytesOf s0).getD j 0).toNat:=⟨_,rfl⟩
    rw[<-hx]at hgx
    have hx8:x<256:=by rw[hx];exact kJ _
    have cJ:=Hp (HP.out j wr.drew hlt (below_drewN (HBW.trans (hb.mono (HBW.size))) 1))
    obtain⟨pj,hpj⟩:=Nm (p j)
    have hp8:pj<256:=by rw[hpj];exact HP8.out j
    rw[<-hpj]at cJ
    obtain⟨m,hm⟩:=Nm (x |||pj)
    have b1:=u8_or_nat x pj hx8 hp8
    rw[<-hm]at b1
    have hm8:m<256:=by rw[hm];exact Nat.or_lt_two_pow (n:=8) hx8 hp8
    have HSET:=Hp (show BytesAt (wr.drew.setCell ⟨w5.heap.size,j,none⟩ (.int .u8 (m:Int))) w5.heap.size (nV (bytesOf s0) p (j+1))/\Below w5.heap.size w5 (wr.drew.setCell ⟨w5.heap.size,j,none⟩ (.int .u8 (m:Int))) from
     ⟨by have h:=(BytesAt.kept (w':=wr.drew) hB rfl).Qv j m hm8;rw[hm,hx,hpj,LH]at h;rw[hm,hx,hpj];exact h,(below_drewN hb 1).setCell (p:=⟨w5.heap.size,j,none⟩) (GZ3 _) _⟩)
    clear hB hb hjl hx hx8 hpj hp8 hm hm8
    go_upto_region 12 with fail
    go_region_with (with_reducible refine(cJ.out).mono ?_;rintro e w' ⟨rfl,rfl⟩)
    all_goals(
     go_wp2_with fail
     go_roundw
     case rel=>exact⟨j+1,by omega,by go_num,HSET.out.1,HSET.out.2⟩
     case measure=>(simp[intOf];try omega))
   ·obtain rfl:j=128:=by omega
    obtain⟨w7,rfl⟩:=Nm wr
    have hB7:=hB
    have hb7:=hb
    rw[show nV (bytesOf s0) p 128=Ta (bytesOf s0) p from by rw[<-HBL.out,OX]]at hB7
    have hz3:=HZ3.out
    have hz5:=HZ5.out
    have y7:=(hb7.cell (p:=⟨w4.heap.size,0,none⟩) (by simp;omega)).trans y0
    have x7:=(hb7.cell (p:=⟨w.heap.size+1,1,none⟩) (by simp;omega)).trans x1
    have hback:=U2 w7 w5.heap.size 128 (C w5) _ (by rw[sS];exact HBL.out) hB7
    rw[<-HTT.out]at hback
    obtain⟨g',hg',_,_,hc7,hf7,hs7⟩:=(HO5.below hb7 (GZ3 _)).at_ HN.out q hqn
    obtain rfl:g4=g':=by injection hg' with h;injection h
    obtain⟨w8,hw8⟩:=Nm (w7.setCell ⟨g4,q,none⟩ (.string t))
    have hw8':=hw8.symm
    have hO8:=hs7 t
    rw[hw8']at hO8
    have y8:w8.cell? ⟨w4.heap.size,0,none⟩=some (.slice (some ⟨g4,0,none⟩) n c4):=by
     rw[hw8,World.cell?_setCell_other _ _ _ _ (by intro h;injection h with h;omega)];exact y7
    have hb8:Below w3.heap.size w7 w8:=hw8▸(GZ4 _ _).setCell (p:=⟨g4,q,none⟩) hg4 _
    have hR8:w8.heap[w.heap.size+1+1]? =some (.cells #[.slice none 0 0] 29 (0,0)):=by
     rw[hb8.block _ (by omega),hb7.block _ (by omega),HB5.block _ (by omega)];exact HR.out
    have v0:=cell_of_heap hR8 0
    have vf:=aQ hR8 0
    simp only[GZ2,GZ0]at v0
    have HR8:=Hp hR8
    have HO8:=Hp hO8
    have HB8:=Hp (HB3.trans ((HB5.mono (by omega)).trans ((hb7.mono (by omega)).trans (hb8.mono (by omega)))))
    clear hw8 hB hb hB7 hb7 hb8 hR8 hO8 hs7 hz3 hz5
    go_wp2_with fail
    have hR9:(w8.setCell ⟨w.heap.size+1+1,0,none⟩ (.slice (some ⟨g4,0,none⟩) n c4)).heap[w.heap.size+1+1]? =some (.cells #[.slice (some ⟨g4,0,none⟩) n c4] 29 (0,0)):=
     heap_setCell_same w8 (w.heap.size+1+1) 0 _ _ (.slice (some ⟨g4,0,none⟩) n c4) HR8.out
    refine bodyPost_ret (results_cell_row rfl _ _ (w.heap.size+1+1) 29 _ (0,0) _ rfl hR9 Tryz.underlying29 rfl Tryz.jI) rfl ?_
    refine⟨HB8.setCell (p:=⟨w.heap.size+1+1,0,none⟩) (by simp;omega) _,_,_,rfl,hc4,?_⟩
    rw[HT.out]
    have hz3:=HZ3.out
    exact dA.more (ownsRow_setCell_other HO8.out (fun h=>by simp[Value.ownBlock]at h;omega) _) (by omega)
end
end Go.Proofs.YtjiedaialianmaaGreat
