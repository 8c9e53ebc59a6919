import Derived.Test.YtjiedaialianmaaGreatA25
import Derived.Test.YtjiedaialianmaaGreatCPlays07
import Derived.Test.YtjiedaialianmaaGreatCPlays09
set_option maxRecDepth 100000
set_option maxHeartbeats 8000000
namespace Go.Proofs.YtjiedaialianmaaGreat
section
open Go
open Go.RowKit
open Gs (Tx)
theorem VE (A g:Option Addr)(c d n a:Nat)(w:World)(h:n≠a):
  Calls Tryz.prog 33 #[.slice A n c,.slice g a d] w fun e b=>e=.returned (.bool false)/\Below w.heap.size w b:=by
 have f:=Hp (GZ4 w.heap.size w)
 have t:((n:Int) != a)=true:=by simp;omega
 clear h
 go_enter Tryz.func33,Tryz.ntmps33
 go_wp2_with fail
 go_ret
 exact⟨rfl,f.out⟩
theorem Ex (m:Mod)(w:World)(X:m.ex.length<=big)(U:m.im.length<=big)(T:m.pa.length<=big):
  Calls Tryz.prog 51 #[m.v,.agg #[.string ⟨#[]⟩,.int .i64 0,.int .i64 0,.string ⟨#[]⟩,.slice none 0 0,.slice none 0 0,.slice none 0 0]] w fun e F=>e=.returned (.bool (Si m))/\Below w.heap.size w F:=by
 obtain⟨w0,q⟩:=Nm (w.alloc (.cells #[.string m.name,.int .i64 m.major,.int .i64 m.minor,.string m.text,.slice m.eA m.ex.length m.eC,.slice m.iA m.im.length m.iC,.slice m.pA m.pa.length m.pC] 70))
 obtain⟨e0,e1,e2,e3,e4,e5,Z,hz,S⟩:=wE q
 obtain⟨w1,o⟩:=Nm (w0.alloc (.cells #[.string ⟨#[]⟩,.int .i64 0,.int .i64 0,.string ⟨#[]⟩,.slice none 0 0,.slice none 0 0,.slice none 0 0] 70))
 obtain⟨f0,f1,f2,f3,f4,f5,f6,k,c⟩:=wE o
 rw[hz]at f0 f1 f2 f3 f4 f5 f6 k
 have x0:=(c.cell (p:=⟨w.heap.size,0,none⟩) (by simp;omega)).trans e0
 have x1:=(c.cell (p:=⟨w.heap.size,1,none⟩) (by simp;omega)).trans e1
 have x2:=(c.cell (p:=⟨w.heap.size,2,none⟩) (by simp;omega)).trans e2
 have x3:=(c.cell (p:=⟨w.heap.size,3,none⟩) (by simp;omega)).trans e3
 have B:=(c.cell (p:=⟨w.heap.size,4,none⟩) (by simp;omega)).trans e4
 have A:=(c.cell (p:=⟨w.heap.size,5,none⟩) (by simp;omega)).trans e5
 have z:=(c.cell (p:=⟨w.heap.size,6,none⟩) (by simp;omega)).trans Z
 have b:=Hp (show Below w.heap.size w w1 from S.trans (c.mono (by omega)))
 have g:=q.symm
 have R:=o.symm
 have r:=Hp (fun W(hn:m.ex.length≠0)=>VE m.eA none m.eC 0 m.ex.length 0 W hn)
 have y:=Hp (show∀W,Calls Tryz.prog 33 #[.slice m.eA 0 m.eC,.slice none 0 0] W fun e F=>e=.returned (.bool true)/\Below W.heap.size W F from fun W=>mE m.eA none m.eC 0 [] W ⟨rfl,fun h=>absurd h (by simp)⟩ Row.nil (Nat.zero_le _))
 obtain⟨V,d⟩:=Nm (Si m)
 rw[<-d]
 unfold Si at d
 unfold big at X U T
 have O:=mW m.name
 have L:=mW m.text
 have N:(m.major==0)=decide (m.major=0):=by rw[Bool.eq_iff_iff];simp
 have M:(m.minor==0)=decide (m.minor=0):=by rw[Bool.eq_iff_iff];simp
 rw[<-O,<-N,<-M,<-L]at d
 clear O N M L q o S c e0 e1 e2 e3 e4 e5 Z
 obtain⟨nm,Q,P,tt,Y,I,H,eA,eC,iA,iC,pA,pC⟩:=m
 simp only at d X U T r y x0 x1 x2 x3 B A z g
 cases K:(nm.toList==[])
 ·rw[K]at d
  obtain rfl:V=false:=by rw[d];rfl
  clear d
  go_enter Tryz.func51,Tryz.ntmps51
  go_wp2_with fail
  go_ret
  exact⟨rfl,b.out⟩
 rw[K]at d
 by_cases E:Q=0
 case neg=>
  obtain rfl:V=false:=by rw[d,beq_eq_false_iff_ne.2 E];rfl
  have a3:(Q != 0)=true:=by simp[E]
  clear d E
  go_enter Tryz.func51,Tryz.ntmps51
  go_wp2_with fail
  go_ret
  exact⟨rfl,b.out⟩
 subst E
 by_cases D:P=0
 case neg=>
  obtain rfl:V=false:=by rw[d,beq_eq_false_iff_ne.2 D];rfl
  have a2:(P != 0)=true:=by simp[D]
  clear d D
  go_enter Tryz.func51,Tryz.ntmps51
  go_wp2_with fail
  go_ret
  exact⟨rfl,b.out⟩
 subst D
 cases J:(tt.toList==[])
 ·rw[J]at d
  obtain rfl:V=false:=by rw[d];rfl
  clear d
  go_enter Tryz.func51,Tryz.ntmps51
  go_wp2_with fail
  go_ret
  exact⟨rfl,b.out⟩
 rw[J]at d
 have n:V=decide (Y.length+I.length+H.length=0):=by rw[d];rfl
 clear d
 by_cases l:Y.length=0
 ·by_cases t:I.length=0
  ·by_cases G:H.length=0
   ·obtain rfl:V=true:=by rw[n];exact decide_eq_true (by omega)
    obtain rfl:=GY9 l
    obtain rfl:=GY9 t
    obtain rfl:=GY9 G
    clear n l t G r
    simp only[List.length_nil]at B A z g
    go_enter Tryz.func51,Tryz.ntmps51
    go_wp2_with fail
    with_reducible refine(y.out _).mono ?_;rintro e s ⟨rfl,a⟩
    have f:=Hp (b.trans (a.mono b.size))
    obtain⟨x,u⟩:=aJ a
    have j:=a.size
    rw[k]at j
    clear a
    go_wp2_with fail
    go_loopw [5] (fun i wr=>i=.int .i64 0/\s=wr) (fun i _=>0)
    case atStart=>exact⟨rfl,rfl⟩
    case round=>
     obtain⟨rfl,rfl⟩:=hrel
     go_wp2_with fail
     go_loopw [6] (fun i wr=>i=.int .i64 0/\s=wr) (fun i _=>0)
     case atStart=>exact⟨rfl,rfl⟩
     case round=>
      obtain⟨rfl,rfl⟩:=hrel
      go_wp2_with fail
      go_ret
      exact⟨rfl,f.out⟩
   ·obtain rfl:V=false:=by rw[n];exact GY7 (by omega)
    obtain rfl:=GY9 l
    obtain rfl:=GY9 t
    have a0:((H.length:Int) != 0)=true:=by rw[bne_iff_ne];omega
    clear n l t G r
    simp only[List.length_nil]at B A z g
    go_enter Tryz.func51,Tryz.ntmps51
    go_wp2_with fail
    with_reducible refine(y.out _).mono ?_;rintro e s ⟨rfl,a⟩
    have f:=Hp (b.trans (a.mono b.size))
    obtain⟨x,u⟩:=aJ a
    have j:=a.size
    rw[k]at j
    clear a
    go_wp2_with fail
    go_ret
    exact⟨rfl,f.out⟩
  ·obtain rfl:V=false:=by rw[n];exact GY7 (by omega)
   obtain rfl:=GY9 l
   have a1:((I.length:Int) != 0)=true:=by rw[bne_iff_ne];omega
   clear n l t r
   simp only[List.length_nil]at B A z g
   go_enter Tryz.func51,Tryz.ntmps51
   go_wp2_with fail
   with_reducible refine(y.out _).mono ?_;rintro e s ⟨rfl,a⟩
   have f:=Hp (b.trans (a.mono b.size))
   obtain⟨x,u⟩:=aJ a
   have j:=a.size
   rw[k]at j
   clear a
   go_wp2_with fail
   go_ret
   exact⟨rfl,f.out⟩
 ·obtain rfl:V=false:=by rw[n];exact GY7 (by omega)
  have C:=Hp (fun W=>r.out W l)
  clear n l r y
  go_enter Tryz.func51,Tryz.ntmps51
  go_wp2_with fail
  with_reducible refine(C.out _).mono ?_;rintro e s ⟨rfl,a⟩
  have f:=Hp (b.trans (a.mono b.size))
  go_wp2_with fail
  go_ret
  exact⟨rfl,f.out⟩
theorem JM (m:Mod)(w:World)(h:m.ex.length<=big)(g:m.im.length<=big)(f:m.pa.length<=big):
  Calls Tryz.prog 141 #[m.v] w fun e j=>e=.returned (.bool (Si m))/\Below w.heap.size w j:=by
 obtain⟨n,a⟩:=Nm (w.alloc (.cells #[.string m.name,.int .i64 m.major,.int .i64 m.minor,.string m.text,.slice m.eA m.ex.length m.eC,.slice m.iA m.im.length m.iC,.slice m.pA m.pa.length m.pC] 70))
 obtain⟨x,u,t,s,r,q,p,o,d⟩:=wE a
 have i:=Hp d
 have c:=a.symm
 have k:=Hp (fun W=>Ex m W h g f)
 clear a d h g f
 go_enter Tryz.func141,Tryz.ntmps141
 go_wp2_with fail
 refine(k.out _).mono ?_;rintro e l ⟨rfl,b⟩
 go_wp2_with fail
 go_ret
 exact⟨rfl,i.trans (b.mono i.size)⟩
theorem UT (c:Cm)(w:World)(h:c.m.ok w)(C:c.nm.size<=big):
  Calls Tryz.prog 63 #[c.v] w fun e n=>e=.returned (.int .i64 (RL c))/\Below w.heap.size w n:=by
 obtain⟨k,m,x⟩:=c
 simp only at h C
 show Calls Tryz.prog 63 #[.agg #[.int .i64 k,.string m.name,.int .i64 m.major,.int .i64 m.minor,.string m.text,.slice m.eA m.ex.length m.eC,.slice m.iA m.im.length m.iC,.slice m.pA m.pa.length m.pC,.string x]] w _
 obtain⟨A,r⟩:=Nm (w.alloc (.cells #[.int .i64 k,.string m.name,.int .i64 m.major,.int .i64 m.minor,.string m.text,.slice m.eA m.ex.length m.eC,.slice m.iA m.im.length m.iC,.slice m.pA m.pa.length m.pC,.string x] 102))
 have D:=r.symm
 obtain⟨P,O,N,L,K,J,H,G,F⟩:=dJ (W:=A) (b:=w.heap.size) (c:=⟨k,m,x⟩) (by rw[r];exact heap_alloc_new w _)
 simp only at P O N L K J H G F
 have g:=Hp (show Below w.heap.size w A from r▸ZB)
 have s:=Hp (fun W=>JM m W h.ex.2.1 h.im.2.1 h.pa.2)
 have z:=Hp (fun W=>Sl x W C)
 have y:=Hp (fun W(Q:Below w.heap.size w W)=>iV m W (h.below Q))
 rw[UR]
 generalize Si m=B at s ⊢
 generalize isName x=I at z ⊢
 generalize aL m=M at y ⊢
 obtain⟨Z,R⟩:∃Z,(x.toList==[])=Z:=⟨_,rfl⟩
 rw[R]
 obtain⟨E,f⟩:=Nm (Cf k B Z I M)
 rw[<-f]
 have i:w.heap.size<A.heap.size:=by rw[r];simp
 clear r h C
 by_cases t:k<1
 ·have j:=Hp (fun W=>RQ k 1 4 W (.inl t))
  clear s z y
  obtain rfl:E=7:=by rw[f];unfold Cf;rw[if_pos (.inl t)]
  clear f
  go_enter Tryz.func63,Tryz.ntmps63
  go_wp2_with fail
  refine(j.out _).mono ?_;rintro e n ⟨rfl,rfl⟩
  go_wp2_with fail
  go_ret
  exact⟨rfl,g.out⟩
 by_cases u:4<k
 ·have j:=Hp (fun W=>RQ k 1 4 W (.inr u))
  clear s z y t
  obtain rfl:E=7:=by rw[f];unfold Cf;rw[if_pos (.inr u)]
  clear f
  go_enter Tryz.func63,Tryz.ntmps63
  go_wp2_with fail
  refine(j.out _).mono ?_;rintro e n ⟨rfl,rfl⟩
  go_wp2_with fail
  go_ret
  exact⟨rfl,g.out⟩
 obtain rfl|rfl|rfl|rfl:k=1\/k=2\/k=3\/k=4:=by omega
 ·have j:=Hp (fun W=>bK 1 1 4 W (by decide) (by decide))
  clear t u
  cases Z
  ·obtain rfl:E=1:=by rw[f];cases B<;>cases I<;>rfl
   clear f
   go_enter Tryz.func63,Tryz.ntmps63
   go_wp2_with fail
   refine(j.out _).mono ?_;rintro e n ⟨rfl,rfl⟩
   go_wp2_with fail
   go_ret
   exact⟨rfl,g.out⟩
  ·obtain rfl:E=M:=by rw[f];cases B<;>cases I<;>rfl
   clear f
   go_enter Tryz.func63,Tryz.ntmps63
   go_wp2_with fail
   refine(j.out _).mono ?_;rintro e n ⟨rfl,rfl⟩
   go_wp2_with fail
   refine(y.out _ g.out).mono ?_;rintro e l ⟨rfl,a⟩
   have d:=Hp (g.trans (a.mono g.size))
   have o:w.heap.size<l.heap.size:=GY0 i a.size
   obtain⟨q,p⟩:=aJ a;clear a
   go_wp2_with fail
   go_ret
   exact⟨rfl,d.out⟩
 ·have j:=Hp (fun W=>bK 2 1 4 W (by decide) (by decide))
  clear t u
  cases B
  ·obtain rfl:E=1:=by rw[f];cases Z<;>cases I<;>rfl
   clear f
   go_enter Tryz.func63,Tryz.ntmps63
   go_wp2_with fail
   refine(j.out _).mono ?_;rintro e n ⟨rfl,rfl⟩
   go_wp2_with fail
   refine(s.out _).mono ?_;rintro e l ⟨rfl,a⟩
   have d:=Hp (g.trans (a.mono g.size))
   have o:w.heap.size<l.heap.size:=GY0 i a.size
   obtain⟨q,p⟩:=aJ a;clear a
   go_wp2_with fail
   go_ret
   exact⟨rfl,d.out⟩
  cases I
  ·obtain rfl:E=1:=by rw[f];cases Z<;>rfl
   clear f
   go_enter Tryz.func63,Tryz.ntmps63
   go_wp2_with fail
   refine(j.out _).mono ?_;rintro e n ⟨rfl,rfl⟩
   go_wp2_with fail
   refine(s.out _).mono ?_;rintro e l ⟨rfl,a⟩
   have d:=Hp (g.trans (a.mono g.size))
   have o:w.heap.size<l.heap.size:=GY0 i a.size
   obtain⟨q,p⟩:=aJ a;clear a
   go_wp2_with fail
   refine(z.out _).mono ?_;rintro e n ⟨rfl,rfl⟩
   go_wp2_with fail
   go_ret
   exact⟨rfl,d.out⟩
  ·obtain rfl:E=0:=by rw[f];cases Z<;>rfl
   clear f
   go_enter Tryz.func63,Tryz.ntmps63
   go_wp2_with fail
   refine(j.out _).mono ?_;rintro e n ⟨rfl,rfl⟩
   go_wp2_with fail
   refine(s.out _).mono ?_;rintro e l ⟨rfl,a⟩
   have d:=Hp (g.trans (a.mono g.size))
   have o:w.heap.size<l.heap.size:=GY0 i a.size
   obtain⟨q,p⟩:=aJ a;clear a
   go_wp2_with fail
   refine(z.out _).mono ?_;rintro e n ⟨rfl,rfl⟩
   go_wp2_with fail
   go_ret
   exact⟨rfl,d.out⟩
 ·have j:=Hp (fun W=>bK 3 1 4 W (by decide) (by decide))
  clear t u
  cases Z
  ·obtain rfl:E=1:=by rw[f];cases B<;>cases I<;>rfl
   clear f
   go_enter Tryz.func63,Tryz.ntmps63
   go_wp2_with fail
   refine(j.out _).mono ?_;rintro e n ⟨rfl,rfl⟩
   go_wp2_with fail
   go_ret
   exact⟨rfl,g.out⟩
  ·obtain rfl:E=M:=by rw[f];cases B<;>cases I<;>rfl
   clear f
   go_enter Tryz.func63,Tryz.ntmps63
   go_wp2_with fail
   refine(j.out _).mono ?_;rintro e n ⟨rfl,rfl⟩
   go_wp2_with fail
   refine(y.out _ g.out).mono ?_;rintro e l ⟨rfl,a⟩
   have d:=Hp (g.trans (a.mono g.size))
   have o:w.heap.size<l.heap.size:=GY0 i a.size
   obtain⟨q,p⟩:=aJ a;clear a
   go_wp2_with fail
   go_ret
   exact⟨rfl,d.out⟩
 ·have j:=Hp (fun W=>bK 4 1 4 W (by decide) (by decide))
  clear t u
  cases B
  ·obtain rfl:E=1:=by rw[f];cases Z<;>cases I<;>rfl
   clear f
   go_enter Tryz.func63,Tryz.ntmps63
   go_wp2_with fail
   refine(j.out _).mono ?_;rintro e n ⟨rfl,rfl⟩
   go_wp2_with fail
   refine(s.out _).mono ?_;rintro e l ⟨rfl,a⟩
   have d:=Hp (g.trans (a.mono g.size))
   have o:w.heap.size<l.heap.size:=GY0 i a.size
   obtain⟨q,p⟩:=aJ a;clear a
   go_wp2_with fail
   go_ret
   exact⟨rfl,d.out⟩
  cases Z
  ·obtain rfl:E=1:=by rw[f];cases I<;>rfl
   clear f
   go_enter Tryz.func63,Tryz.ntmps63
   go_wp2_with fail
   refine(j.out _).mono ?_;rintro e n ⟨rfl,rfl⟩
   go_wp2_with fail
   refine(s.out _).mono ?_;rintro e l ⟨rfl,a⟩
   have d:=Hp (g.trans (a.mono g.size))
   have o:w.heap.size<l.heap.size:=GY0 i a.size
   obtain⟨q,p⟩:=aJ a;clear a
   go_wp2_with fail
   go_ret
   exact⟨rfl,d.out⟩
  ·obtain rfl:E=0:=by rw[f];cases I<;>rfl
   clear f
   go_enter Tryz.func63,Tryz.ntmps63
   go_wp2_with fail
   refine(j.out _).mono ?_;rintro e n ⟨rfl,rfl⟩
   go_wp2_with fail
   refine(s.out _).mono ?_;rintro e l ⟨rfl,a⟩
   have d:=Hp (g.trans (a.mono g.size))
   have o:w.heap.size<l.heap.size:=GY0 i a.size
   obtain⟨q,p⟩:=aJ a;clear a
   go_wp2_with fail
   go_ret
   exact⟨rfl,d.out⟩
theorem nN (a b:Cm)(w:World)(s:a.m.ok w)(r:b.m.ok w)(y:a.nm.size<=big)(z:a.kind=b.kind)(p:gI a.m b.m)(A:a.nm=b.nm):
  Calls Tryz.prog 66 #[a.v,b.v] w fun e C=>e=.returned (.bool true)/\Below w.heap.size w C:=by
 obtain⟨k,m,j⟩:=a
 obtain⟨Z,n,V⟩:=b
 simp only at s r y z p A
 subst z A
 obtain⟨i,d⟩:=Nm (w.alloc (.cells (cmA ⟨k,m,j⟩) 102))
 obtain⟨l,f⟩:=Nm (i.alloc (.cells (cmA ⟨k,n,j⟩) 102))
 have h:Below w.heap.size w i:=d▸ZB
 have g:Below i.heap.size i l:=f▸ZB
 have o:i.heap.size=w.heap.size+1:=by rw[d];simp
 obtain⟨U,T,S,R,Q,P,O,N,M⟩:=dJ (W:=l) (b:=w.heap.size) (c:=⟨k,m,j⟩) ((g.block _ (by omega)).trans (by rw[d];exact heap_alloc_new w _))
 obtain⟨L,K,J,I,H,G,F,E,D⟩:=dJ (W:=l) (b:=w.heap.size+1) (c:=⟨k,n,j⟩) (by rw[f,<-o];exact heap_alloc_new i _)
 simp only at U T S R Q P O N M L K J I H G F E D
 have t:=Hp (h.trans (g.mono h.size))
 have X:=Hp (fun W(B:Below w.heap.size w W)=>qA m n W p (s.below B) (r.below B))
 have x:=d.symm
 have u:=f.symm
 clear d f h g s r y p
 go_enter Tryz.func66,Tryz.ntmps66
 go_wp2_with fail
 refine(X.out _ t.out).mono ?_;rintro e Y ⟨rfl,q⟩
 go_wp2_with fail
 go_ret
 exact⟨rfl,t.trans (q.mono t.size)⟩
theorem UU (c:Cm)(w:World)(h:c.m.ok w)(x:RL c=0):
  Calls Tryz.prog 64 #[c.v] w fun e n=>e=.returned (.string (sof (aG c)))/\Below w.heap.size w n:=by
 obtain⟨k,m,l⟩:=c
 simp only at h
 show Calls Tryz.prog 64 #[.agg #[.int .i64 k,.string m.name,.int .i64 m.major,.int .i64 m.minor,.string m.text,.slice m.eA m.ex.length m.eC,.slice m.iA m.im.length m.iC,.slice m.pA m.pa.length m.pC,.string l]] w _
 obtain⟨G,f⟩:=Nm (w.alloc (.cells #[.int .i64 k,.string m.name,.int .i64 m.major,.int .i64 m.minor,.string m.text,.slice m.eA m.ex.length m.eC,.slice m.iA m.im.length m.iC,.slice m.pA m.pa.length m.pC,.string l] 102))
 have H:=f.symm
 obtain⟨T,R,Q,P,O,M,L,K,J⟩:=dJ (W:=G) (b:=w.heap.size) (c:=⟨k,m,l⟩) (by rw[f];exact heap_alloc_new w _)
 simp only at T R Q P O M L K J
 have o:=Hp (show Below w.heap.size w G from f▸ZB)
 have U:w.heap.size<G.heap.size:=by rw[f];simp
 obtain⟨A,_,j,_,y⟩:=lT x
 have i:=(kZ x).2
 simp only at A j y
 have z:=fun W(B:Below w.heap.size w W)(V:nG k=true)=>EX m W (h.below B) (y V)
 have p:k≠2->l=⟨#[]⟩:=fun q=>by
  have:=j q
  have X:l.data=#[]:=Array.size_eq_zero_iff.1 this
  cases l;exact congrArg ByteArray.mk X
 obtain rfl|rfl|rfl|rfl:k=1\/k=2\/k=3\/k=4:=by omega
 ·obtain rfl:=p (by decide)
  have u:=Hp (show∀W,Calls Tryz.prog 143 #[.int .i64 1,.int .i64 1] W fun e n=>e=.returned (.string ⟨#[1]⟩)/\Below W.heap.size W n from fun W=>iF 1 1 W (by omega))
  have D:=Hp (fun W(B:Below w.heap.size w W)=>z W B rfl)
  obtain⟨S,g⟩:∃S:ByteArray,S=sof (aG ⟨1,m,⟨#[]⟩⟩):=⟨_,rfl⟩
  have E:∀W,(Op.stringOp .add ⟨#[1]⟩ (bsE (dK m))).run Tryz.prog W=.ok (.string S) W:=fA (by rw[g];rfl) (by rw[g];show(aG ⟨1,m,⟨#[]⟩⟩).length<=_;omega)
  rw[<-g]
  obtain⟨N,C⟩:∃N:ByteArray,N=bsE (dK m):=⟨_,rfl⟩
  rw[<-C]at D E
  clear z A j i y x h g C f p
  go_enter Tryz.func64,Tryz.ntmps64
  go_wp2_with fail
  refine(u.out _).mono ?_;rintro e F ⟨rfl,a⟩
  have d:=Hp (o.trans (a.mono o.size))
  obtain⟨s,r⟩:=aJ a;clear a
  go_wp2_with fail
  refine(D.out _ d.out).mono ?_;rintro e I ⟨rfl,t⟩
  go_wp2_with fail
  go_ret
  exact⟨rfl,d.trans (t.mono d.size)⟩
 ·have u:=Hp (show∀W,Calls Tryz.prog 143 #[.int .i64 2,.int .i64 1] W fun e n=>e=.returned (.string ⟨#[2]⟩)/\Below W.heap.size W n from fun W=>iF 2 1 W (by omega))
  obtain⟨S,g⟩:∃S:ByteArray,S=sof (aG ⟨2,m,l⟩):=⟨_,rfl⟩
  have E:∀W,(Op.stringOp .add ⟨#[2]⟩ l).run Tryz.prog W=.ok (.string S) W:=fA (by rw[g];show _=2::(tx l++[]);rw[List.append_nil];rfl) (by rw[g];show(aG ⟨2,m,l⟩).length<=_;omega)
  rw[<-g]
  clear z A j i y x h g f p
  go_enter Tryz.func64,Tryz.ntmps64
  go_wp2_with fail
  refine(u.out _).mono ?_;rintro e F ⟨rfl,a⟩
  have d:=Hp (o.trans (a.mono o.size))
  obtain⟨s,r⟩:=aJ a;clear a
  go_wp2_with fail
  go_ret
  exact⟨rfl,d.out⟩
 ·obtain rfl:=p (by decide)
  have u:=Hp (show∀W,Calls Tryz.prog 143 #[.int .i64 3,.int .i64 1] W fun e n=>e=.returned (.string ⟨#[3]⟩)/\Below W.heap.size W n from fun W=>iF 3 1 W (by omega))
  have D:=Hp (fun W(B:Below w.heap.size w W)=>z W B rfl)
  obtain⟨S,g⟩:∃S:ByteArray,S=sof (aG ⟨3,m,⟨#[]⟩⟩):=⟨_,rfl⟩
  have E:∀W,(Op.stringOp .add ⟨#[3]⟩ (bsE (dK m))).run Tryz.prog W=.ok (.string S) W:=fA (by rw[g];rfl) (by rw[g];show(aG ⟨3,m,⟨#[]⟩⟩).length<=_;omega)
  rw[<-g]
  obtain⟨N,C⟩:∃N:ByteArray,N=bsE (dK m):=⟨_,rfl⟩
  rw[<-C]at D E
  clear z A j i y x h g C f p
  go_enter Tryz.func64,Tryz.ntmps64
  go_wp2_with fail
  refine(u.out _).mono ?_;rintro e F ⟨rfl,a⟩
  have d:=Hp (o.trans (a.mono o.size))
  obtain⟨s,r⟩:=aJ a;clear a
  go_wp2_with fail
  refine(D.out _ d.out).mono ?_;rintro e I ⟨rfl,t⟩
  go_wp2_with fail
  go_ret
  exact⟨rfl,d.trans (t.mono d.size)⟩
 ·obtain rfl:=p (by decide)
  have u:=Hp (show∀W,Calls Tryz.prog 143 #[.int .i64 4,.int .i64 1] W fun e n=>e=.returned (.string ⟨#[4]⟩)/\Below W.heap.size W n from fun W=>iF 4 1 W (by omega))
  have g:(⟨#[4]⟩:ByteArray)=sof (aG ⟨4,m,⟨#[]⟩⟩):=rfl
  rw[<-g]
  clear z A j i y x h g f p
  go_enter Tryz.func64,Tryz.ntmps64
  go_wp2_with fail
  refine(u.out _).mono ?_;rintro e F ⟨rfl,a⟩
  have d:=Hp (o.trans (a.mono o.size))
  obtain⟨s,r⟩:=aJ a;clear a
  go_wp2_with fail
  go_ret
  exact⟨rfl,d.out⟩
theorem Mv {w c:World}{A:Option Addr}{l:List Int}(h:jN w A l)(g:Below w.heap.size w c)(i:Nat)(e:i<l.length):∃b,A=some b/\b.block<w.heap.size/\c.cell? (b.add i)=some (iv l[i]):=by
 obtain⟨b,rfl,a,f⟩:=Row.at_ (enc:=fun n=>[iv n]) (k:=1) (fun _=>rfl) h i e
 have d:=f 0 _ rfl
 rw[add_zero_,Nat.mul_one]at d
 exact⟨b,rfl,a,(g.cell (by rw[aA];exact a)).trans d⟩
theorem fO (A o:Option Addr)(c t:Nat)(l:List Int)(w:World)(h:jN w A l)(m:jN w o l)(r:l.length<=big):
  Calls Tryz.prog 21 #[.slice A l.length c,.slice o l.length t] w fun e p=>e=.returned (.bool true)/\Below w.heap.size w p:=by
 have H:=Hp h
 have v:=Hp m
 unfold big at r
 clear h m
 go_enter Tryz.func21,Tryz.ntmps21
 go_wp2_with fail
 go_loopw [5] (fun i wr=>∃(j:Nat),j<=l.length/\i=.int .i64 j/\Below w.heap.size w wr) (fun i _=>l.length -(intOf i).toNat)
 case atStart=>exact⟨0,by omega,rfl,GZ4 _ _⟩
 case round=>
  obtain⟨j,y,rfl,b⟩:=hrel
  have n:=Hp b
  by_cases a:j<l.length
  ·have g:(j:Int)<l.length:=by omega
   obtain⟨z,rfl,s,q⟩:=Mv H.out b j a
   obtain⟨u,rfl,k,d⟩:=Mv v.out b j a
   obtain⟨x,f⟩:=Nm (l[j])
   rw[<-f]at q d
   clear f b
   go_wp2_with fail
   go_quiet (fail)
   go_wp2_with fail
   go_roundw
   case rel=>exact⟨j+1,by omega,by go_num,below_drewN n.out _⟩
   case measure=>(simp[intOf];try omega)
  ·go_wp2_with fail
   go_ret
   exact⟨rfl,n.out⟩
end
section
open Go.RowKit Go.Lib
theorem Ov {l:List Plc}{m:Mod}{j:Nat}(b:aL m=0)(a:bW 0 l)(h:idxOf (named m.name) l=j):
  (RI (Rc l m.name)).any (jU (dH l m.name) (aH m))=(decide (dH l m.name+aH m<=16)&&!(Rc l m.name).any (fT (dH l m.name) (aH m))):=by
 rw[free_at (gK b).1 a h]
 unfold Rc
 rw[h,Int.toNat_natCast]
theorem FU {α:Type}{p:α->Bool}{l:List α}{q:Nat}(h:q<l.length):(l.take (q+1)).any p=((l.take q).any p || p l[q]):=by
 rw[List.take_succ_eq_append_getElem h,List.any_append]
 simp
theorem CY (k:Krn)(A:Option Addr)(c:Nat)(l:List Plc)(m:Mod)(w:World)(hk:k.ok w)(h:aU w A l)(hm:m.ok w)(m5:aZ k l=0):
  Calls Tryz.prog 41 #[rgV k A l c,m.v] w (Ez w (kP k ⟨3,m,⟨#[]⟩⟩ l) k (qF l m)):=by
 obtain⟨w0,d7⟩:=Nm (w.alloc (.cells #[.int .i64 k.major,.int .i64 k.minor,.slice k.eA k.ex.length k.eC,.slice A l.length c] 39))
 have h9:Below w.heap.size w w0:=d7▸ZB
 have q3:w0.heap.size=w.heap.size+1:=by rw[d7];simp
 have o7:w0.heap[w.heap.size]? =some (.cells #[.int .i64 k.major,.int .i64 k.minor,.slice k.eA k.ex.length k.eC,.slice A l.length c] 39 (0,0)):=by rw[d7];exact heap_alloc_new w _
 obtain⟨x0,d6⟩:=Nm (w0.alloc (.cells #[.string m.name,.int .i64 m.major,.int .i64 m.minor,.string m.text,.slice m.eA m.ex.length m.eC,.slice m.iA m.im.length m.iC,.slice m.pA m.pa.length m.pC] 70))
 obtain⟨y0,g8⟩:=Nm (x0.alloc (.cells #[.int .i64 0,.int .i64 0,.slice none 0 0,.slice none 0 0] 39))
 have h6:Below w0.heap.size w0 x0:=d6▸ZB
 have h5:Below x0.heap.size x0 y0:=g8▸ZB
 have q2:x0.heap.size=w.heap.size+2:=by rw[d6];simp;omega
 have o6:x0.heap[w.heap.size+1]? =some (.cells #[.string m.name,.int .i64 m.major,.int .i64 m.minor,.string m.text,.slice m.eA m.ex.length m.eC,.slice m.iA m.im.length m.iC,.slice m.pA m.pa.length m.pC] 70 (0,0)):=by rw[d6,<-q3];exact heap_alloc_new w0 _
 have i7:=Hp ((h5.block w.heap.size (by omega)).trans ((h6.block w.heap.size (by omega)).trans o7))
 have i5:=Hp ((h5.block (w.heap.size+1) (by omega)).trans o6)
 have i3:=Hp (show y0.heap[w.heap.size+2]? =some (.cells #[.int .i64 0,.int .i64 0,.slice none 0 0,.slice none 0 0] 39 (0,0)) by rw[g8,<-q2];exact heap_alloc_new x0 _)
 have P:=Hp ((h9.trans (h6.mono h9.size)).trans (h5.mono (GY1 h9.size h6.size)))
 obtain⟨n0,n1,n2,n3,n4,n5,n6⟩:=RF i5.out
 obtain⟨_,k0,k1,k2,k3,_⟩:=aB i7.out
 have d9:=Et m5
 have Q:=cZ d9
 have h8:=Q.1
 have HP:=Hp h
 have HK:=Hp hk
 have d8:RY (Rc l m.name)=0:=by unfold Rc;exact vV d9 _
 have g9:(Rc l m.name).length<=8:=(cZ d8).1
 have X:=Hp g9
 have c1:=Hp (iV m y0 (hm.below P.out))
 have c2:=Hp (fun W(z:Below w.heap.size w W)=>lX A c l m.name W (h.below z).row h.len)
 have c3:=Hp (fun W=>lH m W hm.text)
 have cW:=Hp (fun W(z:Below w.heap.size w W)(j:Nat)=>VC A c l j W (h.below z) (by omega))
 have c4:=Hp (fun(A':Option Addr)(c':Nat)W(hp:aU W A' (Rc l m.name))=>DI A' c' (Rc l m.name) (aH m) W hp d8)
 have c5:=Hp (fun(A':Option Addr)(c':Nat)W(hp:aU W A' (Rc l m.name))(p:Int)=>FV A' c' (Rc l m.name) m p W hp (by omega))
 have q1:=Hp (fun W(z:Below w.heap.size w W)(j:Nat)(hj:j<l.length)=>RS h.row z j hj)
 have i1:=Hp (fun(j:Nat)(hj:idxOf (named m.name) l=j)=>show Rc l m.name=l.eraseIdx j by unfold Rc;rw[hj,Int.toNat_natCast])
 have k8:=Hp (show∀x∈Rc l m.name,x.m.ok w from fun x hx=>h.each x (List.mem_of_mem_eraseIdx hx))
 have k9:=Hp (show∀x∈Rc l m.name,0<=x.first/\x.first<=16 from fun x hx=>by
  have h1:=rU (cZ d8).2.2 x hx
  have h2:=(gK ((cZ d8).2.1 x hx).1).1
  have e6:aR x=x.first+aH x.m:=rfl
  omega)
 have V:=Hp (fun(j:Nat)(he:aL m=0)(hj:idxOf (named m.name) l=j)=>Ov he Q.2.2 hj)
 have f9:=Hp (fun(j:Nat)(hj:idxOf (named m.name) l=j)=>show∃U:j<l.length,dH l m.name=l[j].first/\0<=l[j].first/\l[j].first<=16 from by
  obtain⟨U,e⟩:=nK hj
  have h1:=rU Q.2.2 _ (GZ9 U)
  have h2:=(gK (Q.2.1 _ (GZ9 U)).1).1
  have h3:aR l[j]=l[j].first+aH l[j].m:=rfl
  exact⟨U,e,by omega,by omega⟩)
 have i4:=Hp (fun(he:aL m=0)=>gK he)
 obtain⟨F,hF⟩:=Nm (kP k ⟨3,m,⟨#[]⟩⟩ l)
 have h4:F=if kD l m≠0 then kD l m else aZ k (qF l m):=hF
 obtain⟨L,hL⟩:=Nm (qF l m)
 have p7:=Hp (show∀x∈L,x.m.ok w from fun x hx=>by
  rw[hL]at hx
  unfold qF at hx
  rcases mU.1 hx with rfl|hx
  ·exact hm
  ·exact h.each x (List.mem_of_mem_eraseIdx hx))
 have p8:=Hp (show L.length<=big by rw[hL];unfold qF;rw[TY];unfold big;omega)
 rw[<-hF]
 have cases:=DY l m
 rw[<-hL]at h4 cases⊢
 obtain⟨E,hE⟩:=Nm (kD l m)
 rw[<-hE]at cases h4
 obtain⟨b,o3⟩:=Nm (dH l m.name)
 rw[<-o3]at cases f9 V
 obtain⟨n,n7⟩:=Nm (aH m)
 rw[<-n7]at cases c3 c4 i4 V
 obtain⟨R,hR⟩:=Nm (Rc l m.name)
 rw[<-hR]at cases c4 c5 i1 k8 V X k9
 obtain⟨fi,o2⟩:=Nm (fM n (RI R))
 rw[<-o2]at cases c4
 obtain⟨fr,o1⟩:∃fr,fr=(RI R).any (jU b n):=⟨_,rfl⟩
 rw[<-o1]at cases V
 obtain⟨M,hM⟩:=Nm (aL m)
 rw[<-hM]at c1 cases i4 V
 obtain⟨ix,o0⟩:=Nm (idxOf (named m.name) l)
 rw[<-o0]at c2 cases f9 i1 V
 have r9:=d7.symm
 have r8:=d6.symm
 have r7:=g8.symm
 clear d7 d6 g8 h9 h6 h5 o7 o6 hk h hm hF hL hE hM o0 n7 o2 m5 d9 h8 Q d8 g9 o3 hR o1
 have g4:=Hp h4
 clear h4
 rcases cases with⟨t1,rfl⟩|⟨rfl,t2,rfl⟩|⟨j,rfl,rfl,t3,t4,e5⟩|⟨j,rfl,rfl,t3,t4,e5⟩
 ·have G:F=E:=by rw[g4.out,if_pos t1]
  subst G
  have s0:(F != 0)=true:=by simp[t1]
  have T:=Hp t1
  clear t1
  go_enter Tryz.func41,Tryz.ntmps41
  go_wp2_with fail
  refine(c1.out).mono ?_;rintro e w1 ⟨rfl,a⟩
  have O:=Hp (aF a i3)
  have B:=Hp (P.trans (a.mono P.size))
  clear a
  obtain⟨_,c9,c8,c7,c6,d3,d2,d1,d0⟩:=aB O.out
  go_wp2_with fail
  obtain⟨hg,S⟩:=gY O.out (.int .i64 0) (.int .i64 0) (.slice none 0 0) (.slice none 0 0)
  refine bodyPost_ret (results_cell_tmp rfl _ _ (w.heap.size+2) 39 _ (0,0) _ rfl hg Tryz.underlying39 rfl Tryz.RP) rfl ?_
  exact Rx T.out (B.trans ((S.below (GY2 (ZL O.out))).mono (by omega)))
 ·have G:F=5:=by rw[g4.out,if_pos (by decide)]
  subst G
  have t':decide (ix<0)=true:=decide_eq_true t2
  have T:=Hp (show(5:Int)≠0 by decide)
  clear t2
  go_enter Tryz.func41,Tryz.ntmps41
  go_wp2_with fail
  refine(c1.out).mono ?_;rintro e w1 ⟨rfl,a⟩
  have O:=Hp (aF a i3)
  have Z:=Hp (aF a i7)
  have Y:=Hp (aF a i5)
  have B:=Hp (P.trans (a.mono P.size))
  obtain⟨_,a0,a1,a2,a3,_⟩:=aB Z.out
  obtain⟨b0,b1,b2,b3,b4,b5,b6⟩:=RF Y.out
  clear a n0 n1 n2 n3 n4 n5 n6 k0 k1 k2 k3
  go_wp2_with fail
  refine(c2.out _ B.out).mono ?_;rintro e w2 ⟨rfl,f⟩
  have b7:=Hp (aF f O)
  have b9:=Hp (aF f Z)
  have b8:=Hp (aF f Y)
  have I:=Hp (B.trans (f.mono B.size))
  obtain⟨_,a0,a1,a2,a3,_⟩:=aB b9.out
  obtain⟨b0,b1,b2,b3,b4,b5,b6⟩:=RF b8.out
  clear f
  obtain⟨_,c9,c8,c7,c6,d3,d2,d1,d0⟩:=aB b7.out
  go_wp2_with fail
  obtain⟨hg,S⟩:=gY b7.out (.int .i64 0) (.int .i64 0) (.slice none 0 0) (.slice none 0 0)
  refine bodyPost_ret (results_cell_tmp rfl _ _ (w.heap.size+2) 39 _ (0,0) _ rfl hg Tryz.underlying39 rfl Tryz.RP) rfl ?_
  exact Rx T.out (I.trans ((S.below (GY2 (ZL b7.out))).mono (by omega)))
 ·have f0:=f9.out j rfl
  have q7:E=0:=t4 (by obtain⟨_,e,h0,_⟩:=f0;omega)
  subst q7
  have G:F=aZ k L:=by rw[g4.out,if_neg (by decide)]
  have HF:=Hp G
  clear G f0 t4
  obtain⟨U,a5,j3,e2⟩:=f9.out j rfl
  have j2:=i4.out (by first|trivial|rfl)
  have a4:=V.out j (by first|trivial|rfl) rfl
  rw[t3]at a4
  have k5:=Hp a4
  have r5:=Hp a5
  have l9:=Hp e5
  have t':decide ((j:Int)<0)=false:=GY7 (by omega)
  have n9:(j:Int)<l.length:=by omega
  clear a4 e5
  go_enter Tryz.func41,Tryz.ntmps41
  go_wp2_with fail
  refine(c1.out).mono ?_;rintro e w1 ⟨rfl,a⟩
  have O:=Hp (aF a i3)
  have Z:=Hp (aF a i7)
  have Y:=Hp (aF a i5)
  have B:=Hp (P.trans (a.mono P.size))
  obtain⟨_,a0,a1,a2,a3,_⟩:=aB Z.out
  obtain⟨b0,b1,b2,b3,b4,b5,b6⟩:=RF Y.out
  clear a n0 n1 n2 n3 n4 n5 n6 k0 k1 k2 k3
  go_wp2_with fail
  refine(c2.out _ B.out).mono ?_;rintro e w2 ⟨rfl,f⟩
  have b7:=Hp (aF f O)
  have b9:=Hp (aF f Z)
  have b8:=Hp (aF f Y)
  have I:=Hp (B.trans (f.mono B.size))
  obtain⟨_,a0,a1,a2,a3,_⟩:=aB b9.out
  obtain⟨b0,b1,b2,b3,b4,b5,b6⟩:=RF b8.out
  clear f
  obtain⟨ad,rfl,j4,_,_,_,_,_,_,_,m7⟩:=q1.out w2 I.out j U
  rw[<-a5]at m7 j3 e2
  have a7:=Hp (cW.out w2 I.out j)
  rw[<-i1.out j rfl]at a7
  clear a5
  go_wp2_with fail
  refine(a7.out).mono ?_;rintro e w3 ⟨⟨A3,i0,rfl,e0⟩,D⟩
  have l3:=Hp (aF D b7)
  have m3:=Hp (aF D b9)
  have e9:=Hp (aF D b8)
  have c0:=Hp (I.trans (D.mono I.size))
  have l5:=Hp (show aU w3 A3 R from⟨Reads.of_own e0,by have:=X.out;unfold big;omega,fun x hx=>(k8.out x hx).below c0.out⟩)
  obtain⟨p0,p1,p2,p3,p4,p5,p6⟩:=RF e9.out
  have q5:wrap64 (b+n)=b+n:=IntWalk.wrap64_in _ (by omega)
  have q4:IntKind.i64.wrap (b+n)=b+n:=IntWalk.i64_in _ (by omega)
  obtain⟨bq,a6⟩:=Nm (decide (b+n<=16))
  have m4:=Hp a6
  have o4:=a6.symm
  clear e0 D a7 m7 a0 a1 a2 a3 b0 b1 b2 b3 b4 b5 b6 j4 a6
  go_wp2_with fail
  refine(c3.out _).mono ?_;rintro e w4 ⟨rfl,u⟩
  have l2:=Hp (aF u l3)
  have m2:=Hp (aF u m3)
  have l8:=Hp (aF u e9)
  have g7:=Hp (c0.trans (u.mono c0.size))
  have e7:=Hp (l5.below u)
  clear u p0 p1 p2 p3 p4 p5 p6
  have g9:R.length<=8:=X.out
  go_wp2_with fail
  go_loopw [10,11] (fun ft i wr=>∃q:Nat,q<=R.length/\i=.int .i64 q/\ft=.bool (bq&&!(R.take q).any (fT b n))/\Below w4.heap.size w4 wr) (fun _ i _=>R.length -(intOf i).toNat)
  case atStart=>exact⟨0,by omega,rfl,by simp,GZ4 _ _⟩
  case round=>
   obtain⟨q,hq,rfl,rfl,z⟩:=hrel
   have d5:=Hp (g7.trans (z.mono g7.size))
   have HB:=Hp z
   have m0:=Hp (aF z m2)
   have k7:=Hp (aF z l2)
   have d4:=Hp (aF z l8)
   have l4:=Hp (e7.below z)
   obtain⟨p0,p1,p2,p3,p4,p5,p6⟩:=RF d4.out
   by_cases K:q<R.length
   ·have n8:(q:Int)<R.length:=by omega
    have N:=FU (p:=fT b n) K
    obtain⟨a8,rfl,o5,f0,f1,f2,f3,f4,f5,f6,f7⟩:=RS e7.row z q K
    have j1:=k9.out R[q] (GZ9 _)
    obtain⟨y,hy⟩:=Nm (R[q]'K)
    simp only[<-hy]at N f7 j1
    have e4:(a8.add (q*8)).block<wr.heap.size:=by rw[aA];have:=z.size;omega
    obtain⟨an,e3⟩:∃an,an=(R.take q).any (fT b n):=⟨_,rfl⟩
    rw[<-e3]at N ⊢
    have J:=Hp N
    have q6:=(ZL d4.out)
    clear z N hy e3 f0 f1 f2 f3 f4 f5 f6
    by_cases s1:b<y.first
    ·have j0:decide (b<y.first)=true:=decide_eq_true s1
     go_wp2_with fail
     go_region_law (first|(go_simp;go_at_call 107;(with_reducible refine(c3.out _).mono ?_);rintro e w6 ⟨rfl,o⟩;have q8:=(o.cell (p:=⟨(a8.add (q*8)).block,(a8.add (q*8)).off+7,none⟩) e4).trans f7;have r:=Hp (HB.out.trans ((GZ4 _ wr).drew.trans o |>.mono HB.out.size));clear o))
     all_goals(
      by_cases s2:y.first<b+n
      ·have i9:decide (y.first<b+n)=true:=decide_eq_true s2
       have d:fT b n y=true:=by simp[fT,s1,s2]
       have H:=Hp d
       clear d
       go_wp2_with fail
       go_roundw
       case rel=>exact⟨q+1,by omega,by go_num,by rw[J.out,H.out];simp,r.out⟩
       case measure=>(simp[intOf];try omega)
      ·have i9:decide (y.first<b+n)=false:=GY7 s2
       have d:fT b n y=false:=by simp[fT,s2]
       have H:=Hp d
       clear d
       go_wp2_with fail
       go_roundw
       case rel=>exact⟨q+1,by omega,by go_num,by rw[J.out,H.out];simp,r.out⟩
       case measure=>(simp[intOf];try omega))
    ·have j0:decide (b<y.first)=false:=GY7 s1
     have d:fT b n y=false:=by simp[fT,s1]
     have H:=Hp d
     clear d
     go_wp2_with fail
     go_quiet (fail)
     have r:=Hp (below_drewN HB nq)
     go_wp2_with fail
     go_roundw
     case rel=>exact⟨q+1,by omega,by go_num,by rw[J.out,H.out];simp,r.out⟩
     case measure=>(simp[intOf];try omega)
   ·obtain rfl:q=R.length:=by omega
    have e1:(bq&&!R.any (fT b n))=true:=by rw[m4.out];exact k5.symm
    rw[List.take_length,e1]
    have m9:=j2
    clear z e1 K
    have cV:=Hp (c5.out A3 i0 wr l4.out b)
    rw[<-l9.out]at cV
    go_wp2_with fail
    refine(cV.out).mono ?_;rintro e w5 ⟨⟨A5,k4,rfl,m8⟩,C⟩
    have r2:=Hp (show aP w5 w.heap.size _ _ from RH m8 d5.size)
    have l1:=Hp (aF C k7)
    have i6:=Hp (aF C m0)
    have i8:=Hp (d5.trans (C.mono d5.size))
    clear m8 C p0 p1 p2 p3 p4 p5 p6 cV
    obtain⟨_,g0,g1,g2,g3,j8,j7,j6,j5⟩:=aB i6.out
    go_wp2_with fail
    obtain⟨w8,e8,f8,l0,g6,a9,l7⟩:=rO (nR:=2) i8.out i6.out l1.out (by omega) r2.out p7.out p8.out HK.out
    rw[<-e8]
    clear e8 g0 g1 g2 g3 j8 j7 j6 j5
    obtain⟨_,g0,g1,g2,g3,_⟩:=aB f8.out
    have cC:=Hp (gH k A5 k4 L w8 a9.out.1 a9.out.2)
    rw[<-HF.out]at cC
    try go_wp2_with fail
    refine(cC.out).mono ?_;rintro e w9 ⟨rfl,s⟩
    have g:=Hp (aF s l0)
    have m1:=Hp (aF s f8)
    have g5:=Hp (g6.trans (s.mono g6.size))
    have k6:=Hp (a9.below s)
    have l6:=Hp (aO l7 s)
    clear s cC g0 g1 g2 g3
    by_cases t:F=0
    ·subst t
     obtain⟨_,g0,g1,g2,g3,_⟩:=aB m1.out
     obtain⟨_,c9,c8,c7,c6,d3,d2,d1,d0⟩:=aB g.out
     go_wp2_with fail
     obtain⟨hg,S⟩:=gY g.out (.int .i64 k.major) (.int .i64 k.minor) (.slice k.eA k.ex.length k.eC) (.slice A5 L.length k4)
     refine bodyPost_ret (results_cell_tmp rfl _ _ (w.heap.size+2) 39 _ (0,0) _ rfl hg Tryz.underlying39 rfl Tryz.RP) rfl ?_
     exact⟨⟨k,A5,L,k4,rfl,k6.other ⟨_,_,_,_,_,_,_,_,g.out⟩ S,rfl,rfl,rfl,rfl,own_kp l6.out (S.kp g.out (ts:=[39]) (by simp)) (by decide)⟩,g5.trans ((S.below (GY2 (ZL g.out))).mono (by omega))⟩
    ·have t':(F != 0)=true:=by simp[t]
     have T:=Hp t
     clear t
     obtain⟨_,c9,c8,c7,c6,d3,d2,d1,d0⟩:=aB g.out
     go_wp2_with fail
     obtain⟨hg,S⟩:=gY g.out (.int .i64 0) (.int .i64 0) (.slice none 0 0) (.slice none 0 0)
     refine bodyPost_ret (results_cell_tmp rfl _ _ (w.heap.size+2) 39 _ (0,0) _ rfl hg Tryz.underlying39 rfl Tryz.RP) rfl ?_
     exact Rx T.out (g5.trans ((S.below (GY2 (ZL g.out))).mono (by omega)))
 ·have q0:=Hp t4
  clear t4
  obtain⟨U,a5,j3,e2⟩:=f9.out j rfl
  have j2:=i4.out (by first|trivial|rfl)
  have a4:=V.out j (by first|trivial|rfl) rfl
  rw[t3]at a4
  have k5:=Hp a4
  have r5:=Hp a5
  have l9:=Hp e5
  have t':decide ((j:Int)<0)=false:=GY7 (by omega)
  have n9:(j:Int)<l.length:=by omega
  clear a4 e5
  go_enter Tryz.func41,Tryz.ntmps41
  go_wp2_with fail
  refine(c1.out).mono ?_;rintro e w1 ⟨rfl,a⟩
  have O:=Hp (aF a i3)
  have Z:=Hp (aF a i7)
  have Y:=Hp (aF a i5)
  have B:=Hp (P.trans (a.mono P.size))
  obtain⟨_,a0,a1,a2,a3,_⟩:=aB Z.out
  obtain⟨b0,b1,b2,b3,b4,b5,b6⟩:=RF Y.out
  clear a n0 n1 n2 n3 n4 n5 n6 k0 k1 k2 k3
  go_wp2_with fail
  refine(c2.out _ B.out).mono ?_;rintro e w2 ⟨rfl,f⟩
  have b7:=Hp (aF f O)
  have b9:=Hp (aF f Z)
  have b8:=Hp (aF f Y)
  have I:=Hp (B.trans (f.mono B.size))
  obtain⟨_,a0,a1,a2,a3,_⟩:=aB b9.out
  obtain⟨b0,b1,b2,b3,b4,b5,b6⟩:=RF b8.out
  clear f
  obtain⟨ad,rfl,j4,_,_,_,_,_,_,_,m7⟩:=q1.out w2 I.out j U
  rw[<-a5]at m7 j3 e2
  have a7:=Hp (cW.out w2 I.out j)
  rw[<-i1.out j rfl]at a7
  clear a5
  go_wp2_with fail
  refine(a7.out).mono ?_;rintro e w3 ⟨⟨A3,i0,rfl,e0⟩,D⟩
  have l3:=Hp (aF D b7)
  have m3:=Hp (aF D b9)
  have e9:=Hp (aF D b8)
  have c0:=Hp (I.trans (D.mono I.size))
  have l5:=Hp (show aU w3 A3 R from⟨Reads.of_own e0,by have:=X.out;unfold big;omega,fun x hx=>(k8.out x hx).below c0.out⟩)
  obtain⟨p0,p1,p2,p3,p4,p5,p6⟩:=RF e9.out
  have q5:wrap64 (b+n)=b+n:=IntWalk.wrap64_in _ (by omega)
  have q4:IntKind.i64.wrap (b+n)=b+n:=IntWalk.i64_in _ (by omega)
  obtain⟨bq,a6⟩:=Nm (decide (b+n<=16))
  have m4:=Hp a6
  have o4:=a6.symm
  clear e0 D a7 m7 a0 a1 a2 a3 b0 b1 b2 b3 b4 b5 b6 j4 a6
  go_wp2_with fail
  refine(c3.out _).mono ?_;rintro e w4 ⟨rfl,u⟩
  have l2:=Hp (aF u l3)
  have m2:=Hp (aF u m3)
  have l8:=Hp (aF u e9)
  have g7:=Hp (c0.trans (u.mono c0.size))
  have e7:=Hp (l5.below u)
  clear u p0 p1 p2 p3 p4 p5 p6
  have g9:R.length<=8:=X.out
  go_wp2_with fail
  go_loopw [10,11] (fun ft i wr=>∃q:Nat,q<=R.length/\i=.int .i64 q/\ft=.bool (bq&&!(R.take q).any (fT b n))/\Below w4.heap.size w4 wr) (fun _ i _=>R.length -(intOf i).toNat)
  case atStart=>exact⟨0,by omega,rfl,by simp,GZ4 _ _⟩
  case round=>
   obtain⟨q,hq,rfl,rfl,z⟩:=hrel
   have d5:=Hp (g7.trans (z.mono g7.size))
   have HB:=Hp z
   have m0:=Hp (aF z m2)
   have k7:=Hp (aF z l2)
   have d4:=Hp (aF z l8)
   have l4:=Hp (e7.below z)
   obtain⟨p0,p1,p2,p3,p4,p5,p6⟩:=RF d4.out
   by_cases K:q<R.length
   ·have n8:(q:Int)<R.length:=by omega
    have N:=FU (p:=fT b n) K
    obtain⟨a8,rfl,o5,f0,f1,f2,f3,f4,f5,f6,f7⟩:=RS e7.row z q K
    have j1:=k9.out R[q] (GZ9 _)
    obtain⟨y,hy⟩:=Nm (R[q]'K)
    simp only[<-hy]at N f7 j1
    have e4:(a8.add (q*8)).block<wr.heap.size:=by rw[aA];have:=z.size;omega
    obtain⟨an,e3⟩:∃an,an=(R.take q).any (fT b n):=⟨_,rfl⟩
    rw[<-e3]at N ⊢
    have J:=Hp N
    have q6:=(ZL d4.out)
    clear z N hy e3 f0 f1 f2 f3 f4 f5 f6
    by_cases s1:b<y.first
    ·have j0:decide (b<y.first)=true:=decide_eq_true s1
     go_wp2_with fail
     go_region_law (first|(go_simp;go_at_call 107;(with_reducible refine(c3.out _).mono ?_);rintro e w6 ⟨rfl,o⟩;have q8:=(o.cell (p:=⟨(a8.add (q*8)).block,(a8.add (q*8)).off+7,none⟩) e4).trans f7;have r:=Hp (HB.out.trans ((GZ4 _ wr).drew.trans o |>.mono HB.out.size));clear o))
     all_goals(
      by_cases s2:y.first<b+n
      ·have i9:decide (y.first<b+n)=true:=decide_eq_true s2
       have d:fT b n y=true:=by simp[fT,s1,s2]
       have H:=Hp d
       clear d
       go_wp2_with fail
       go_roundw
       case rel=>exact⟨q+1,by omega,by go_num,by rw[J.out,H.out];simp,r.out⟩
       case measure=>(simp[intOf];try omega)
      ·have i9:decide (y.first<b+n)=false:=GY7 s2
       have d:fT b n y=false:=by simp[fT,s2]
       have H:=Hp d
       clear d
       go_wp2_with fail
       go_roundw
       case rel=>exact⟨q+1,by omega,by go_num,by rw[J.out,H.out];simp,r.out⟩
       case measure=>(simp[intOf];try omega))
    ·have j0:decide (b<y.first)=false:=GY7 s1
     have d:fT b n y=false:=by simp[fT,s1]
     have H:=Hp d
     clear d
     go_wp2_with fail
     go_quiet (fail)
     have r:=Hp (below_drewN HB nq)
     go_wp2_with fail
     go_roundw
     case rel=>exact⟨q+1,by omega,by go_num,by rw[J.out,H.out];simp,r.out⟩
     case measure=>(simp[intOf];try omega)
   ·obtain rfl:q=R.length:=by omega
    have e1:(bq&&!R.any (fT b n))=false:=by rw[m4.out];exact k5.symm
    rw[List.take_length,e1]
    have m9:=j2
    clear z e1 K
    have cF:=Hp (fun W hp=>c4.out A3 i0 W hp)
    have cV:=Hp (fun W hp=>c5.out A3 i0 W hp fi)
    rw[<-l9.out]at cV
    go_wp2_with fail
    refine(c3.out _).mono ?_;rintro e w5 ⟨rfl,C⟩
    have l1:=Hp (aF C k7)
    have i6:=Hp (aF C m0)
    have r3:=Hp (aF C d4)
    have o9:=Hp (l4.below C)
    have i8:=Hp (d5.trans (C.mono d5.size))
    clear C p0 p1 p2 p3 p4 p5 p6
    go_wp2_with fail
    refine(cF.out _ o9.out).mono ?_;rintro e w6 ⟨rfl,o⟩
    have i2:=Hp (aF o l1)
    have r4:=Hp (aF o i6)
    have r0:=Hp (o9.below o)
    have r:=Hp (i8.trans (o.mono i8.size))
    obtain⟨p0,p1,p2,p3,p4,p5,p6⟩:=RF (aF o r3.out)
    clear o
    by_cases t:fi<0
    ·have G:F=8:=by rw[g4.out,q0.out,if_pos t,if_pos (by decide)]
     subst G
     have t5:decide (fi<0)=true:=decide_eq_true t
     have T:=Hp (show(8:Int)≠0 by decide)
     clear t
     obtain⟨_,c9,c8,c7,c6,d3,d2,d1,d0⟩:=aB i2.out
     go_wp2_with fail
     obtain⟨hg,S⟩:=gY i2.out (.int .i64 0) (.int .i64 0) (.slice none 0 0) (.slice none 0 0)
     refine bodyPost_ret (results_cell_tmp rfl _ _ (w.heap.size+2) 39 _ (0,0) _ rfl hg Tryz.underlying39 rfl Tryz.RP) rfl ?_
     exact Rx T.out (r.trans ((S.below (GY2 (ZL i2.out))).mono (by omega)))
    ·have G:F=aZ k L:=by rw[g4.out,q0.out,if_neg t,if_neg (by decide)]
     have HF:=Hp G
     have t5:decide (fi<0)=false:=GY7 t
     have o8:=Hp (cV.out w6 r0.out)
     clear t G cV
     go_wp2_with fail
     refine(o8.out).mono ?_;rintro e w7 ⟨⟨A7,j9,rfl,m6⟩,h7⟩
     have r1:=Hp (show aP w7 w.heap.size _ _ from RH m6 r.size)
     have q9:=Hp (aF h7 i2)
     have p9:=Hp (aF h7 r4)
     have r6:=Hp (r.trans (h7.mono r.size))
     clear m6 h7 p0 p1 p2 p3 p4 p5 p6 o8
     obtain⟨_,g0,g1,g2,g3,j8,j7,j6,j5⟩:=aB p9.out
     go_wp2_with fail
     obtain⟨w8,e8,f8,l0,g6,a9,l7⟩:=rO (nR:=2) r6.out p9.out q9.out (by omega) r1.out p7.out p8.out HK.out
     rw[<-e8]
     clear e8 g0 g1 g2 g3 j8 j7 j6 j5
     obtain⟨_,g0,g1,g2,g3,_⟩:=aB f8.out
     have cC:=Hp (gH k A7 j9 L w8 a9.out.1 a9.out.2)
     rw[<-HF.out]at cC
     try go_wp2_with fail
     refine(cC.out).mono ?_;rintro e w9 ⟨rfl,s⟩
     have g:=Hp (aF s l0)
     have m1:=Hp (aF s f8)
     have g5:=Hp (g6.trans (s.mono g6.size))
     have k6:=Hp (a9.below s)
     have l6:=Hp (aO l7 s)
     clear s cC g0 g1 g2 g3
     by_cases t:F=0
     ·subst t
      obtain⟨_,g0,g1,g2,g3,_⟩:=aB m1.out
      obtain⟨_,c9,c8,c7,c6,d3,d2,d1,d0⟩:=aB g.out
      go_wp2_with fail
      obtain⟨hg,S⟩:=gY g.out (.int .i64 k.major) (.int .i64 k.minor) (.slice k.eA k.ex.length k.eC) (.slice A7 L.length j9)
      refine bodyPost_ret (results_cell_tmp rfl _ _ (w.heap.size+2) 39 _ (0,0) _ rfl hg Tryz.underlying39 rfl Tryz.RP) rfl ?_
      exact⟨⟨k,A7,L,j9,rfl,k6.other ⟨_,_,_,_,_,_,_,_,g.out⟩ S,rfl,rfl,rfl,rfl,own_kp l6.out (S.kp g.out (ts:=[39]) (by simp)) (by decide)⟩,g5.trans ((S.below (GY2 (ZL g.out))).mono (by omega))⟩
     ·have t':(F != 0)=true:=by simp[t]
      have T:=Hp t
      clear t
      obtain⟨_,c9,c8,c7,c6,d3,d2,d1,d0⟩:=aB g.out
      go_wp2_with fail
      obtain⟨hg,S⟩:=gY g.out (.int .i64 0) (.int .i64 0) (.slice none 0 0) (.slice none 0 0)
      refine bodyPost_ret (results_cell_tmp rfl _ _ (w.heap.size+2) 39 _ (0,0) _ rfl hg Tryz.underlying39 rfl Tryz.RP) rfl ?_
      exact Rx T.out (g5.trans ((S.below (GY2 (ZL g.out))).mono (by omega)))
end
end Go.Proofs.YtjiedaialianmaaGreat
