import Derived.Test.YtjiedaialianmaaGreatA06
import Derived.Test.YtjiedaialianmaaGreatA12
set_option maxRecDepth 100000
set_option maxHeartbeats 4000000
namespace Go.Proofs.YtjiedaialianmaaGreat
section
open Go.RowKit
def Tn (l:List Exp)(a:ByteArray):Int:=if(iR l a).2=0 then(iR l a).1 else-1
theorem Io {l:List Exp}{a:ByteArray}{j:Nat}(h:j<l.length)(e:idxOf (called a) l=j):Tn l a=l[j].at_:=by
 rcases gW (called a) l with⟨d,_⟩|⟨n,b,d,c⟩
 ·omega
 ·obtain rfl:n=j:=by omega
  unfold Tn;rw[tZ b c];rfl
theorem IM {l:List Exp}{a:ByteArray}(e:idxOf (called a) l= -1):Tn l a= -1:=by
 rcases gW (called a) l with⟨_,b⟩|⟨n,c,d,_⟩
 ·unfold Tn;rw[uV b];rfl
 ·omega
theorem lX (A:Option Addr)(c:Nat)(l:List Plc)(a:ByteArray)(w:World)(h:Row Plc.cells 8 w A l)(C:l.length<=big):
  Calls Tryz.prog 105 #[.slice A l.length c,.string a] w fun e B=>e=.returned (.int .i64 (idxOf (named a) l))/\Below w.heap.size w B:=by
 unfold big at C
 have E:=Hp h
 clear h
 obtain⟨R,s⟩:=Nm (idxOf (named a) l)
 rw[<-s]
 have z:=Hp s
 clear s
 go_enter Tryz.func105,Tryz.ntmps105
 go_wp2_with fail
 go_loopw [5] (fun i wr=>∃j:Nat,j<=l.length/\i=.int .i64 j/\(∀k(n:k<l.length),k<j->named a l[k]=false)/\Below w.heap.size w wr) (fun i _=>l.length -(intOf i).toNat)
 case atStart=>exact⟨0,by omega,rfl,by omega,GZ4 _ _⟩
 case round=>
  obtain⟨j,F,rfl,y,r⟩:=hrel
  have u:=Hp y
  have v:=Hp r
  clear y
  by_cases f:j<l.length
  ·have x:(j:Int)<l.length:=by omega
   obtain⟨O,rfl,D,N,M,L,K,J,I,H,G⟩:=RS E.out r j f
   clear r
   by_cases d:l[j].m.name=a
   ·have t:=Hp (fJ f u.out (show named a l[j]=true by simp[named,d]))
    have p:=str_eq d
    have g:=Hp d
    clear d
    have b:=Hp (z.trans t.out)
    go_wp2_with fail
    go_ret
    exact⟨aC b.symm,v.out⟩
   ·have p:=mY d
    have g:=Hp (show named a l[j]=false by simp[named,d])
    clear d
    go_wp2_with fail
    go_roundw
    case rel=>exact⟨j+1,by omega,by go_num,fun k n o=>by rcases Nat.lt_succ_iff_lt_or_eq.1 o with h|rfl;exact u.out k n h;exact g.out,v.out⟩
    case measure=>(simp[intOf];try omega)
  ·have t:=Hp (gT (q:=named a) (l:=l) (fun k n=>u.out k n (by omega)))
   have b:=Hp (z.trans t.out)
   go_wp2_with fail
   go_ret
   exact⟨aC b.symm,v.out⟩
theorem vM (A:Option Addr)(c:Nat)(l:List Exp)(nm:ByteArray)(w:World)(h:Row Exp.cells 2 w A l)(z:l.length<=big):
  Calls Tryz.prog 286 #[.slice A l.length c,.string nm] w fun e y=>e=.returned (.int .i64 (Tn l nm))/\Below w.heap.size w y:=by
 unfold big at z
 have C:=Hp h
 clear h
 obtain⟨R,p⟩:=Nm (Tn l nm)
 rw[<-p]
 have x:=Hp p
 clear p
 go_enter Tryz.func286,Tryz.ntmps286
 go_wp2_with fail
 go_loopw [5] (fun i wr=>∃j:Nat,j<=l.length/\i=.int .i64 j/\(∀k(g:k<l.length),k<j->called nm l[k]=false)/\Below w.heap.size w wr) (fun i _=>l.length -(intOf i).toNat)
 case atStart=>exact⟨0,by omega,rfl,by omega,GZ4 _ _⟩
 case round=>
  obtain⟨j,D,rfl,v,o⟩:=hrel
  have s:=Hp v
  have t:=Hp o
  clear v
  by_cases b:j<l.length
  ·have u:(j:Int)<l.length:=by omega
   obtain⟨G,rfl,B,F,E⟩:=mF C.out o j b
   clear o
   by_cases d:l[j].name=nm
   ·have r:=Hp (fJ b s.out (show called nm l[j]=true by simp[called,d]))
    have n:=str_eq d
    have f:=Hp d
    clear d
    have a:=Hp (x.trans (Io b r.out))
    go_wp2_with fail
    go_ret
    exact⟨aC a.symm,t.out⟩
   ·have n:=mY d
    have f:=Hp (show called nm l[j]=false by simp[called,d])
    clear d
    go_wp2_with fail
    go_roundw
    case rel=>exact⟨j+1,by omega,by go_num,fun k g m=>by rcases Nat.lt_succ_iff_lt_or_eq.1 m with h|rfl;exact s.out k g h;exact f.out,t.out⟩
    case measure=>(simp[intOf];try omega)
  ·have r:=Hp (gT (q:=called nm) (l:=l) (fun k g=>s.out k g (by omega)))
   have a:=Hp (x.trans (IM r.out))
   go_wp2_with fail
   go_ret
   exact⟨aC a.symm,t.out⟩
theorem Cg (k:Krn)(A:Option Addr)(c:Nat)(l:List Plc)(i:Imp)(w:World)(hk:k.ok w)(h:aU w A l)(hp:iB k l=0):
  Calls Tryz.prog 258 #[k.v,.slice A l.length c,i.v] w fun e w'=>e=.returned (.tuple #[.int .i64 (addrOf k l i).1,.int .i64 (addrOf k l i).2])/\Below w.heap.size w w':=by
 obtain⟨wk,K⟩:=Nm (w.alloc (.cells #[.int .i64 k.major,.int .i64 k.minor,.slice k.eA k.ex.length k.eC] 24))
 obtain⟨g0,g1,g2,a2,T⟩:=uE K
 obtain⟨w0,L⟩:=Nm (wk.alloc (.cells #[.string i.mod,.string i.name,.int .i64 i.major,.int .i64 i.minor] 173))
 obtain⟨f0,f1,f2,f3,t,s⟩:=oJ L
 rw[a2]at f0 f1 f2 f3 t s
 have k0:=(s.cell (p:=⟨w.heap.size,0,none⟩) (by simp)).trans g0
 have k1:=(s.cell (p:=⟨w.heap.size,1,none⟩) (by simp)).trans g1
 have k2:=(s.cell (p:=⟨w.heap.size,2,none⟩) (by simp)).trans g2
 have g:=Hp (show Below w.heap.size w w0 from T.trans (s.mono (by omega)))
 have HZ:=Hp t
 have a6:=K.symm
 have a7:=L.symm
 have kq:=rX i.mod
 obtain⟨R,f⟩:=Nm (addrOf k l i)
 rw[<-f]
 have HL:=h.len
 unfold big at HL
 have HP:=Hp h
 have a0:=Hp hp
 have P:=Hp (fun W(U:Below w.heap.size w W)=>vM k.eA k.eC k.ex i.name W (hk.below U).ex.1 (hk.below U).ex.2.1)
 clear K L T s hk h hp g0 g1 g2 t
 by_cases F:i.mod=RG
 ·rw[yV F]at f
  rw[show decide (i.mod=RG)=true by simp[F]]at kq
  clear F
  by_cases q:k.major≠i.major
  ·rw[if_pos (.inl q)]at f
   have a1:(k.major != i.major)=true:=by simp[q]
   clear q
   go_enter Tryz.func258,Tryz.ntmps258
   go_wp2_with fail
   go_ret2
   exact⟨by rw[f];rfl,g.out⟩
  have a1:(k.major != i.major)=false:=by simpa using q
  by_cases z:k.minor<i.minor
  ·rw[if_pos (.inr z)]at f
   clear q
   go_enter Tryz.func258,Tryz.ntmps258
   go_wp2_with fail
   go_ret2
   exact⟨by rw[f];rfl,g.out⟩
  have G:decide (k.minor<i.minor)=false:=by simpa using z
  rw[if_neg (by simp only[not_or];exact⟨q,z⟩)]at f
  clear q z
  have y:=nJ k.ex i.name
  have S:=UE (nm:=i.name) (fun x hx=>((Ee (Uo a0.out).1) x hx).2) (by omega:(0:Int)<4096)
  unfold Tn at P
  rw[<-f]at P y S
  clear f
  obtain⟨r1,r2⟩:=R
  simp only at y S P ⊢
  by_cases u:r2=0
  ·obtain rfl:=u
   rw[if_pos rfl]at P
   have q1:decide (r1<0)=false:=by simp;omega
   go_enter Tryz.func258,Tryz.ntmps258
   go_wp2_with (first|(go_at_call 286;(with_reducible refine(P.out _ g.out).mono ?_);rintro e j ⟨rfl,a⟩))
   go_ret2
   exact⟨rfl,g.trans (a.mono g.size)⟩
  ·obtain⟨rfl,rfl⟩:r1=0/\r2=5:=by omega
   rw[if_neg u]at P
   go_enter Tryz.func258,Tryz.ntmps258
   go_wp2_with (first|(go_at_call 286;(with_reducible refine(P.out _ g.out).mono ?_);rintro e j ⟨rfl,a⟩))
   go_ret2
   exact⟨rfl,g.trans (a.mono g.size)⟩
 ·rw[show decide (i.mod=RG)=false by simp[F]]at kq
  have t:=HZ.out
  have a3:w.heap.size+1<w0.heap.size:=by omega
  have a9:w.heap.size<w0.heap.size:=by omega
  have O:=Hp (lX A c l i.mod w0 (HP.row.below g.out) (by unfold big;omega))
  clear t
  rcases gW (named i.mod) l with⟨Y,X⟩|⟨n,r,Y,X⟩
  ·rw[DV F X]at f
   rw[Y]at O
   clear Y X F
   go_enter Tryz.func258,Tryz.ntmps258
   go_wp2_with (first|(go_at_call 105;(with_reducible refine(O.out).mono ?_);rintro e j ⟨rfl,a⟩;obtain⟨C,B⟩:=aJ a;have a3:w.heap.size<j.heap.size:=by have:=a.size;(try simp at this);omega))
   go_ret2
   exact⟨by rw[f];rfl,g.trans (a.mono (by omega))⟩
  ·rw[Dv F X]at f
   rw[Y]at O
   clear Y X F
   have b0:(n:Int)<l.length:=by omega
   have HK:=Hp (fun W(a4:Below w.heap.size w W)=>RS HP.row a4 n r)
   obtain⟨Z,rfl,a5,_⟩:=RS HP.row (GZ4 _ _) n r
   have M:=HP.each l[n] (GZ9 _)
   obtain⟨p1,p2,p3⟩:=D5 a0.out (x:=l[n]) (GZ9 _)
   have Q:=Hp (fun W(U:Below w.heap.size w W)=>vM (l[n]'r).m.eA (l[n]'r).m.eC (l[n]'r).m.ex i.name W (M.below U).ex.1 (M.below U).ex.2.1)
   have S:=UE (nm:=i.name) (Nj p3) (by omega:(0:Int)<256)
   have y:=nJ (l[n]'r).m.ex i.name
   obtain⟨V,hV⟩:=Nm (iR (l[n]'r).m.ex i.name)
   unfold Tn at Q
   rw[<-hV]at Q y S f
   have q1:wrap64 (64*(l[n]'r).first)=64*(l[n]'r).first:=IntWalk.wrap64_in _ (by omega)
   have q2:wrap64 (4096+64*(l[n]'r).first)=4096+64*(l[n]'r).first:=IntWalk.wrap64_in _ (by omega)
   have q3:=Hp (show wrap64 (4096+64*(l[n]'r).first+V.1)=4096+64*(l[n]'r).first+V.1 by rw[IntWalk.wrap64_in _ (by omega)])
   have E:=Hp (show(Z.add (n*8)).block<w.heap.size by rw[aA];exact a5)
   clear hV M p3
   by_cases q:l[n].m.major≠i.major\/l[n].m.minor<i.minor
   ·rw[if_pos q]at f
    by_cases z:l[n].m.major=i.major
    ·have t3:l[n].m.minor<i.minor:=by rcases q with h|h;exact absurd z h;exact h
     have G:(l[n].m.major != i.major)=false:=by simp[z]
     clear q z
     go_enter Tryz.func258,Tryz.ntmps258
     go_wp2_with (go_at_call 105;refine(O.out).mono ?_;rintro e j ⟨rfl,a⟩;obtain⟨C,B⟩:=aJ a;obtain⟨_,o,_,m0,m1,m2,m3,m4,m5,m6,m7⟩:=HK.out _ (g.trans (a.mono (by omega)));obtain rfl:=GY3 o;have J:=a.size;have I:w.heap.size+1<j.heap.size:=(by omega);have H:w.heap.size<j.heap.size:=(by omega);have N:(Z.add (n*8)).block<j.heap.size:=GY0 E.out (by omega))
     go_ret2
     exact⟨by rw[f];rfl,(g.trans (a.mono (by omega))).alloc (by omega) _⟩
    ·have G:(l[n].m.major != i.major)=true:=by simp[z]
     clear q z
     go_enter Tryz.func258,Tryz.ntmps258
     go_wp2_with (go_at_call 105;refine(O.out).mono ?_;rintro e j ⟨rfl,a⟩;obtain⟨C,B⟩:=aJ a;obtain⟨_,o,_,m0,m1,m2,m3,m4,m5,m6,m7⟩:=HK.out _ (g.trans (a.mono (by omega)));obtain rfl:=GY3 o;have J:=a.size;have I:w.heap.size+1<j.heap.size:=(by omega);have H:w.heap.size<j.heap.size:=(by omega);have N:(Z.add (n*8)).block<j.heap.size:=GY0 E.out (by omega))
     go_ret2
     exact⟨by rw[f];rfl,(g.trans (a.mono (by omega))).alloc (by omega) _⟩
   ·rw[if_neg q]at f
    have G:(l[n].m.major != i.major)=false:=by simp;omega
    have a8:decide (l[n].m.minor<i.minor)=false:=by simp;omega
    clear q
    obtain⟨v1,v2⟩:=V
    simp only at y S Q f q3
    by_cases u:v2=0
    ·obtain rfl:=u
     rw[if_neg (by simp)]at f
     rw[if_pos rfl]at Q
     have q4:decide (v1<0)=false:=by simp;omega
     go_enter Tryz.func258,Tryz.ntmps258
     go_wp2_with (first|(go_at_call 105;refine(O.out).mono ?_;rintro e j ⟨rfl,a⟩;obtain⟨C,B⟩:=aJ a;obtain⟨_,o,_,m0,m1,m2,m3,m4,m5,m6,m7⟩:=HK.out _ (g.trans (a.mono (by omega)));obtain rfl:=GY3 o;have J:=a.size;have I:w.heap.size+1<j.heap.size:=(by omega);have H:w.heap.size<j.heap.size:=(by omega);have N:(Z.add (n*8)).block<j.heap.size:=GY0 E.out (by omega))|(go_at_call 286;refine(Q.out _ ((g.trans (a.mono (by omega))).alloc (by omega) _)).mono ?_;rintro e w2 ⟨rfl,D⟩;obtain⟨_,o,_,m0,m1,m2,m3,m4,m5,m6,m7⟩:=HK.out _ (((g.trans (a.mono (by omega))).alloc (by omega) _).trans (D.mono (by simp;omega)));obtain rfl:=GY3 o))
     go_ret2
     exact⟨(Tu (b:=4096+64*(l[n]'r).first+v1) (d:=0) (by first|exact q3.out|omega) rfl).trans (by rw[f]),((g.trans (a.mono (by omega))).alloc (by omega) _).trans (D.mono (by simp;omega))⟩
    ·obtain⟨rfl,rfl⟩:v1=0/\v2=5:=by omega
     rw[if_pos (by simp)]at f
     rw[if_neg u]at Q
     go_enter Tryz.func258,Tryz.ntmps258
     go_wp2_with (first|(go_at_call 105;refine(O.out).mono ?_;rintro e j ⟨rfl,a⟩;obtain⟨C,B⟩:=aJ a;obtain⟨_,o,_,m0,m1,m2,m3,m4,m5,m6,m7⟩:=HK.out _ (g.trans (a.mono (by omega)));obtain rfl:=GY3 o;have J:=a.size;have I:w.heap.size+1<j.heap.size:=(by omega);have H:w.heap.size<j.heap.size:=(by omega);have N:(Z.add (n*8)).block<j.heap.size:=GY0 E.out (by omega))|(go_at_call 286;refine(Q.out _ ((g.trans (a.mono (by omega))).alloc (by omega) _)).mono ?_;rintro e w2 ⟨rfl,D⟩))
     go_ret2
     exact⟨by rw[f];rfl,((g.trans (a.mono (by omega))).alloc (by omega) _).trans (D.mono (by simp;omega))⟩
end
section
open Go.RowKit
open Gs (Tx)
theorem Mr {l:List Plc}(c:(txs l).Nodup){i:Nat}(a:i<l.length):idxOf (named l[i].m.name) l=i:=by
 refine fJ a (fun k b d=>?_) (by simp[named])
 unfold named
 refine GY7 (fun e=>?_)
 have:=yB c k i b a (by rw[Sq b,Sq a,e])
 omega
theorem OP {l:List Plc}{i:Nat}(b:i<l.length)(h:idxOf (named l[i].m.name) l<i):dD l=true:=by
 rw[SQ]
 intro a
 rw[Mr a b]at h;omega
theorem Nz {l:List Plc}(h:∀i(b:i<l.length),¬idxOf (named l[i].m.name) l<i):dD l=false:=by
 cases e:dD l
 ·rfl
 ·rw[SQ]at e
  refine absurd ?_ e
  refine List.pairwise_iff_getElem.2 (fun i j b g k c=>?_)
  rw[eZ]at b g
  have p:=xB b
  have o:=xB g
  rw[p,o]at c
  have c:=FC c
  refine h j g ?_
  rcases Sb (named l[j].m.name) l with⟨_,d⟩|⟨q,r,n,_,a⟩
  ·have:=d l[j] (GZ9 _);simp[named]at this
  ·rw[n]
   have:¬i<q:=fun f=>by have:=a i b f;simp[named,c]at this
   omega
theorem Fe (A:Option Addr)(c:Nat)(l:List Plc)(w:World)(h:Row Plc.cells 8 w A l)(u:l.length<=big):
  Calls Tryz.prog 175 #[.slice A l.length c] w fun e E=>e=.returned (.bool (dD l))/\Below w.heap.size w E:=by
 have J:=Hp u
 unfold big at u
 have B:=Hp h
 clear h
 obtain⟨R,q⟩:=Nm (dD l)
 rw[<-q]
 have z:=Hp q
 clear q
 go_enter Tryz.func175,Tryz.ntmps175
 go_wp2_with fail
 go_loopw [3] (fun i wr=>∃j:Nat,j<=l.length/\i=.int .i64 j/\(∀k(v:k<l.length),k<j->(k:Int)<=idxOf (named l[k].m.name) l)/\Below w.heap.size w wr) (fun i _=>l.length -(intOf i).toNat)
 case atStart=>exact⟨0,by omega,rfl,by omega,GZ4 _ _⟩
 case round=>
  obtain⟨j,K,rfl,x,n⟩:=hrel
  have C:=Hp x
  have o:=Hp n
  clear x
  by_cases g:j<l.length
  ·have t:(j:Int)<l.length:=by omega
   have b:=lX A c l l[j].m.name wr (B.below n) J.out
   obtain⟨U,rfl,I,T,S,Q,P,O,N,M,L⟩:=RS B.out n j g
   obtain⟨s,d⟩:=Nm (idxOf (named l[j].m.name) l)
   rw[<-d]at b
   have y:=Hp b
   clear n b
   by_cases H:s<j
   ·have a:=Hp (show R=true by rw[z.out];exact OP g (by omega))
    clear d
    go_wp2_with (go_at_call 105;refine(y.out).mono ?_;rintro e D ⟨rfl,f⟩)
    go_ret
    exact⟨aV a.symm,o.trans (f.mono o.size)⟩
   ·have r:=Hp (show(j:Int)<=idxOf (named l[j].m.name) l by omega)
    have G:decide (s<j)=false:=by simp;omega
    clear d H
    go_wp2_with (go_at_call 105;refine(y.out).mono ?_;rintro e D ⟨rfl,f⟩)
    go_roundw
    case rel=>exact⟨j+1,by omega,by go_num,fun k v p=>by rcases Nat.lt_succ_iff_lt_or_eq.1 p with h|rfl;exact C.out k v h;exact r.out,o.trans (f.mono o.size)⟩
    case measure=>(simp[intOf];try omega)
  ·have a:=Hp (show R=false by rw[z.out];exact Nz (fun i F=>by have:=C.out i F (by omega);omega))
   clear n
   go_wp2_with fail
   go_ret
   exact⟨aV a.symm,o.out⟩
end
end Go.Proofs.YtjiedaialianmaaGreat
