import Derived.Test.YtjiedaialianmaaGreatA24
import Derived.Test.YtjiedaialianmaaGreatKTiny
namespace Go.Proofs.YtjiedaialianmaaGreat
section
open Go
open Gs (Tx)
theorem tH (c:Cm):aG c.bare=aG c:=rfl
theorem Cc {c c':Cm} (h:c.bare=c'.bare):aG c=aG c':=by rw[<-tH c,h,tH]
end
section
open Go
open Gs (Tx)
theorem Uk {k k':Krn} (hk:k.bare=k'.bare):∀{a a':List Cm} {l l':List Plc} (F:List ByteArray),aD l=aD l'->Ty a=Ty a'->RD k l F a=RD k' l' F a'
 | [],[],_,_,_,_,_=>rfl
 |c::a,c'::a',l,l',F,hl,hc=>by
  have h1:c.bare=c'.bare:=(List.cons.inj hc).1
  have h2:Ty a=Ty a':=(List.cons.inj hc).2
  unfold RD
  rw[Tz hk hl h1,Cc h1,Uk hk F (Su hk hl h1) h2,Uk hk (bT F (aW F (aG c'))) (Su hk hl h1) h2]
end
section
open Go
theorem Kw {k:Krn} {cs:List Cm} {n:Nat} (hk:bJ k=0) (h40:cs.length<=40) (h0:(fD k F32 cs).2.2=0):
  (fD k F32 (cs.take n)).2.2=0/\(fD k (fD k F32 (cs.take n)).1 (cs.drop n)).2.2=0/\(fD k F32 (cs.take n)).2.1++(fD k (fD k F32 (cs.take n)).1 (cs.drop n)).2.1=(fD k F32 cs).2.1/\
   (fD k (fD k F32 (cs.take n)).1 (cs.drop n)).1=(fD k F32 cs).1/\S9 k (fD k F32 cs).1=0/\bP (fD k F32 cs).1=0/\bP (fD k F32 (cs.take n)).1=0:=by
 have hr:=(DC hk h40 h0).2.1
 have hf:bP (fD k F32 cs).1=0:=by rw[zN hk h40];exact FI cs Qf
 have e1:fD k F32 (cs.take n)=RD k [] F32 (cs.take n):=zN hk (by rw[List.length_take];omega)
 rw[e1]
 rw[zN hk h40]at h0 hr hf ⊢
 have z1:(RD k [] F32 (cs.take n)).2.2=0:=by
  by_cases c:(RD k [] F32 (cs.take n)).2.2=0
  ·exact c
  ·rw[zX c]at h0
   exact h0
 have p:=uD (k:=k) (cs.take n) (l:=[]) zM
 have hw:=p.whole z1
 obtain⟨D,q,e,hi⟩:=p.inv
 have e2:fD k (RD k [] F32 (cs.take n)).1 (cs.drop n)=RD k (Rl k [] (cs.take n)) (RD k [] F32 (cs.take n)).1 (cs.drop n):=by
  rw[Ue hk hi (by rw[List.length_drop];omega)]
  refine Uk rfl _ ?_ rfl
  rw[hw]
  exact(mX (k:=k) (cs.take n) _ [] rfl).2
 have m:=rF k (cs.take n) (cs.drop n) [] F32 z1
 rw[List.take_append_drop]at m
 rw[e2]
 rw[m]at h0 hr hf ⊢
 exact⟨z1,h0,rfl,rfl,hr,hf,hi.ok⟩
end
end Go.Proofs.YtjiedaialianmaaGreat
