import Derived.Test.YtjiedaialianmaaGreatA14
import Derived.Test.YtjiedaialianmaaGreatA25
set_option maxRecDepth 100000
set_option maxHeartbeats 8000000
namespace Go.Proofs.YtjiedaialianmaaGreat
section
open Go
def firstOf (l:List Plc)(many:Int):Int×Int:=
 if RY l≠0 then(0,RY l)else if many<1\/16<many then(0,3)else if fM many (RI l)<0 then(0,8)else(fM many (RI l),0)
end
section
open Go
namespace Gs
theorem eq_of_sorted :∀{a b:List Tx},a.Perm b->sorted a->sorted b->a=b
 | [],b,p,_,_=>(List.nil_perm.1 p).symm
 |x::a,[],p,_,_=>absurd (List.Perm.symm p) (by simp)
 |x::a,y::b,p,ha,hb=>by
  have d:=List.pairwise_cons.1 ha
  have c:=List.pairwise_cons.1 hb
  have e:x=y:=by
   have g:x∈y::b:=p.subset List.mem_cons_self
   have f:y∈x::a:=p.symm.subset List.mem_cons_self
   rcases List.mem_cons.1 g with h|h
   ·exact h
   ·rcases List.mem_cons.1 f with k|k
    ·exact k.symm
    ·exact KY (d.1 y k) (c.1 x h)
  subst e
  rw[eq_of_sorted (List.Perm.cons_inv p) d.2 c.2]
theorem eq_msort {a b:List Tx}(p:a.Perm b)(h:sorted a):a=Sd b:=eq_of_sorted (p.trans (SN b).symm) h (wT b)
end Gs
end
section
open Go.RowKit Go.Lib Go.Sort
open Gs (Tx)
theorem SameTexts_any (A B:Option Addr)(c d:Nat)(l r:List Tx)(w:World)(h:Hl w A l)(N:Hl w B r)(S:l.length<=big)(Q:r.length<=big):
  Calls Tryz.prog 31 #[.slice A l.length c,.slice B r.length d] w fun e P=>e=.returned (.bool (decide (l=r)))/\Below w.heap.size w P:=by
 unfold big at S Q
 have Y:=Hp h
 have X:=Hp N
 clear h N
 obtain⟨R,I⟩:=Nm (decide (l=r))
 rw[<-I]
 have J:=Hp I
 clear I
 by_cases f:l.length=r.length
 ·have o:((l.length:Int) != r.length)=false:=by simp;omega
  have z:=Hp f
  clear f
  go_enter Tryz.func31,Tryz.ntmps31
  go_wp2_with fail
  go_loopw [5] (fun i wr=>∃j:Nat,j<=l.length/\i=.int .i64 j/\(∀k(C:k<l.length)(g:k<r.length),k<j->l[k]=r[k])/\Below w.heap.size w wr) (fun i _=>l.length -(intOf i).toNat)
  case atStart=>exact⟨0,by omega,rfl,by omega,GZ4 _ _⟩
  case round=>
   obtain⟨j,hj,rfl,M,y⟩:=hrel
   have O:=Hp M
   have K:=Hp y
   clear M
   have x:=z.out
   by_cases E:j<l.length
   ·have v:j<r.length:=by omega
    have L:(j:Int)<l.length:=by omega
    have D:(j:Int)<r.length:=by omega
    obtain⟨ad,rfl,U,W⟩:=MU Y.out y j E
    obtain⟨bd,rfl,T,V⟩:=MU X.out y j v
    obtain⟨s,u⟩:=Nm (bs l[j])
    obtain⟨t,q⟩:=Nm (bs r[j])
    rw[<-u]at W
    rw[<-q]at V
    clear y x
    by_cases p:l[j]=r[j]
    ·have H:(s.toList==t.toList)=true:=by rw[u,q,p];simp
     clear u q
     have Z:=Hp p
     clear p
     go_wp2_with fail
     go_quiet (fail)
     go_wp2_with fail
     go_roundw
     case rel=>exact⟨j+1,by omega,by go_num,fun k C g F=>by rcases Nat.lt_succ_iff_lt_or_eq.1 F with h|rfl;exact O.out k C g h;exact Z.out,below_drewN K.out _⟩
     case measure=>(simp[intOf];try omega)
    ·have H:(s.toList==t.toList)=false:=mY (a:=s) (b:=t) (fun e=>p (by rw[<-Nh l[j],<-u,e,q,Nh]))
     clear u q
     have n:=Hp (show R=false by rw[J.out];simp only[decide_eq_false_iff_not];rintro rfl;exact p rfl)
     clear p
     go_wp2_with fail
     go_quiet (fail)
     go_wp2_with fail
     go_ret
     exact⟨aV n.symm,below_drewN K.out _⟩
   ·have m:=z.out
    have G:=Hp (show R=true by
     rw[J.out]
     exact decide_eq_true (List.ext_getElem m (fun k C g=>O.out k C g (by omega))))
    clear y x m
    go_wp2_with fail
    go_ret
    exact⟨aV G.symm,K.out⟩
 ·have o:((l.length:Int) != r.length)=true:=by simp;omega
  have n:=Hp (show R=false by rw[J.out];simp only[decide_eq_false_iff_not];rintro rfl;exact f rfl)
  clear f
  go_enter Tryz.func31,Tryz.ntmps31
  go_wp2_with fail
  go_ret
  exact⟨aV n.symm,GZ4 _ _⟩
end
section
open Go.RowKit
theorem First_any (A:Option Addr)(c:Nat)(l:List Plc)(many:Int)(w:World)(h:aU w A l):
  Calls Tryz.prog 120 #[.slice A l.length c,.int .i64 many] w fun e u=>e=.returned (.tuple #[.int .i64 (firstOf l many).1,.int .i64 (firstOf l many).2])/\Below w.heap.size w u:=by
 have f:=Hp (Ji A c l w h)
 have g:=Hp (fun W(p:Below w.heap.size w W)B=>PU A c l many W (h.below p) B)
 obtain⟨V,b⟩:=Nm (firstOf l many)
 rw[<-b]
 unfold firstOf at b
 obtain⟨E,s⟩:=Nm (RY l)
 rw[<-s]at f g b
 obtain⟨n,r⟩:=Nm (fM many (RI l))
 simp only[<-r]at g b
 clear s h r
 by_cases j:E=0
 ·obtain rfl:=j
  rw[if_neg (by omega)]at b
  have k:=Hp (fun W p=>g.out W p rfl)
  clear g
  by_cases o:many<1
  ·rw[if_pos (.inl o)]at b
   subst b
   clear k
   go_enter Tryz.func120,Tryz.ntmps120
   go_wp2_with (first|(go_at_call 137;refine(f.out).mono ?_;rintro e i ⟨rfl,a⟩))
   go_ret2
   exact⟨rfl,a⟩
  have y:decide (many<1)=false:=by simp;omega
  by_cases q:16<many
  ·rw[if_pos (.inr q)]at b
   subst b
   clear k o
   go_enter Tryz.func120,Tryz.ntmps120
   go_wp2_with (first|(go_at_call 137;refine(f.out).mono ?_;rintro e i ⟨rfl,a⟩))
   go_ret2
   exact⟨rfl,a⟩
  have x:decide (16<many)=false:=by simp;omega
  rw[if_neg (by omega)]at b
  clear o q
  by_cases m:n<0
  ·rw[if_pos m]at b
   subst b
   go_enter Tryz.func120,Tryz.ntmps120
   go_wp2_with (first|(go_at_call 137;refine(f.out).mono ?_;rintro e i ⟨rfl,a⟩)|(go_at_call 190;refine(k.out _ a).mono ?_;rintro e t ⟨rfl,d⟩))
   go_ret2
   exact⟨rfl,a.trans (d.mono a.size)⟩
  ·rw[if_neg m]at b
   subst b
   have v:decide (n<0)=false:=by simp;omega
   clear m
   go_enter Tryz.func120,Tryz.ntmps120
   go_wp2_with (first|(go_at_call 137;refine(f.out).mono ?_;rintro e i ⟨rfl,a⟩)|(go_at_call 190;refine(k.out _ a).mono ?_;rintro e t ⟨rfl,d⟩))
   go_ret2
   exact⟨rfl,a.trans (d.mono a.size)⟩
 ·rw[if_pos j]at b
  subst b
  have z:(E != 0)=true:=by simp[j]
  clear j g
  go_enter Tryz.func120,Tryz.ntmps120
  go_wp2_with (first|(go_at_call 137;refine(f.out).mono ?_;rintro e i ⟨rfl,a⟩))
  go_ret2
  exact⟨rfl,a⟩
theorem Size_any (m:Mod)(w:World)(h:m.ok w):
  Calls Tryz.prog 119 #[m.v] w fun e s=>e=.returned (.tuple #[.int .i64 (if aL m≠0 then 0 else aH m),.int .i64 (aL m)])/\Below w.heap.size w s:=by
 obtain⟨j,b⟩:=Nm (w.alloc (.cells #[.string m.name,.int .i64 m.major,.int .i64 m.minor,.string m.text,.slice m.eA m.ex.length m.eC,.slice m.iA m.im.length m.iC,.slice m.pA m.pa.length m.pC] 70))
 obtain⟨H,G,F,D,C,B,A,z,f⟩:=wE b
 have k:=b.symm
 have x:w.heap.size<j.heap.size:=by omega
 have r:=Hp f
 have g:=Hp (oM m j (h.below f))
 have q:=Hp (fun W=>qG m W h.text)
 obtain⟨E,p⟩:=Nm (aL m)
 rw[<-p]at g ⊢
 obtain⟨M,o⟩:=Nm (aH m)
 rw[<-o]at q ⊢
 clear b f h p o
 by_cases c:E=0
 ·obtain rfl:=c
  rw[if_neg (by omega)]
  go_enter Tryz.func119,Tryz.ntmps119
  go_wp2_with (first|(go_at_call 113;refine(g.out).mono ?_;rintro e i ⟨rfl,a⟩;obtain⟨n,l⟩:=aJ a;have u:w.heap.size<i.heap.size:=by have:=a.size;omega)|(go_at_call 164;refine(q.out _).mono ?_;rintro e y ⟨rfl,d⟩))
  go_ret2
  exact⟨rfl,(r.trans (a.mono (by omega))).trans (d.mono (by omega))⟩
 ·have t:(E != 0)=true:=by simp[c]
  rw[if_pos c]
  clear c
  go_enter Tryz.func119,Tryz.ntmps119
  go_wp2_with (first|(go_at_call 113;refine(g.out).mono ?_;rintro e i ⟨rfl,a⟩))
  go_ret2
  exact⟨rfl,r.trans (a.mono (by omega))⟩
end
section
open Go
theorem step_bare :∀(l:List Plc)(a:Int),Rj a (aD l)=(Rj a l).map aD
 | [],_=>rfl
 |x::l,a=>by
  show Rj a (x.bare::aD l)=_
  unfold Rj
  have e:aR x.bare=aR x:=rfl
  have f:x.bare.first=x.first:=rfl
  rw[e,f,step_bare l]
  split
  ·rfl
  ·cases Rj (aR x) l<;>rfl
theorem step_like {l b:List Plc}(h:aD l=aD b)(a:Int):(Rj a l).isSome=(Rj a b).isSome/\aD ((Rj a l).getD l)=aD ((Rj a b).getD b):=by
 have e:=(step_bare l a).symm.trans ((congrArg (Rj a) h).trans (step_bare b a))
 cases d:Rj a l<;>cases c:Rj a b<;>rw[d,c]at e
 ·exact⟨rfl,h⟩
 ·cases e
 ·cases e
 ·exact⟨rfl,GY3 e⟩
end
section
open Go.RowKit Go.Lib
theorem CStep_any (k:Krn)(A:Option Addr)(c:Nat)(l:List Plc)(w:World)(hk:k.ok w)(h:aU w A l):
  Calls Tryz.prog 52 #[rgV k A l c] w fun e w'=>(∃k' A' l' c',e=.returned (.tuple #[rgV k' A' l' c',.bool (decide (aZ k l=0)&&(Rj 0 l).isSome),.int .i64 (aZ k l)])/\UQ w' w.heap.size k' A' l' c' (wK (aZ k l) k) (wL (aZ k l) ((Rj 0 l).getD l)))/\Below w.heap.size w w':=by
 obtain⟨K,s⟩:=Nm (w.alloc (.cells #[.int .i64 k.major,.int .i64 k.minor,.slice k.eA k.ex.length k.eC,.slice A l.length c] 39))
 obtain⟨g0,g1,g2,g3,a0,D⟩:=oJ s
 obtain⟨x0,j⟩:=Nm (K.alloc (.cells #[.int .i64 0,.int .i64 0,.slice none 0 0,.slice none 0 0] 39))
 have U:Below K.heap.size K x0:=j▸ZB
 have L:x0.heap.size=w.heap.size+2:=by rw[j];simp;omega
 have z:=Hp (show x0.heap[w.heap.size+1]? =some (.cells #[.int .i64 0,.int .i64 0,.slice none 0 0,.slice none 0 0] 39 (0,0)) by rw[j,<-a0];exact heap_alloc_new K _)
 have G:=Hp (show x0.heap[w.heap.size]? =some (.cells #[.int .i64 k.major,.int .i64 k.minor,.slice k.eA k.ex.length k.eC,.slice A l.length c] 39 (0,0)) by rw[j,heap_alloc_old K _ (by omega),s];exact heap_alloc_new w _)
 obtain⟨_,k0,k1,k2,k3,_⟩:=aB G.out
 have J:=Hp (D.trans (U.mono D.size))
 have b3:=Hp L
 have HP:=Hp h
 have HK:=Hp hk
 have c1:=Hp (fun W(X:Below w.heap.size w W)=>jE k A c l W (hk.below X) (h.below X))
 obtain⟨E,hE⟩:=Nm (aZ k l)
 have HE:=Hp hE
 rw[<-hE]at c1 ⊢
 have b2:=s.symm
 have b0:=j.symm
 clear s j D U hk h g0 g1 g2 g3 L hE
 by_cases t:E=0
 ·obtain⟨Y,f2,f3,f4⟩:=oL (HE.symm.trans t)
  have F1:=Hp Y
  have F2:=Hp f2
  have c2:=Hp (fun W(X:Below w.heap.size w W)=>U8 k A c l W (HK.below X) (HP.below X) Y f3 f4)
  subst t
  obtain⟨ok,C⟩:∃ok,ok=(Rj 0 l).isSome:=⟨_,rfl⟩
  have a4:=Hp C
  rw[<-C]
  clear Y f2 f3 f4 C
  go_enter Tryz.func52,Tryz.ntmps52
  go_wp2_with fail
  refine(c1.out _ J.out).mono ?_;rintro e w1 ⟨rfl,d⟩
  have g:=Hp (J.trans (d.mono J.size))
  have p:=Hp ((d.block (w.heap.size+1) (ZL z)).trans z)
  obtain⟨_,m0,m1,m2,m3,_⟩:=aB ((d.block w.heap.size (ZL G.out)).trans G.out)
  have b4:=Hp d.size
  clear d k0 k1 k2 k3
  go_wp2_with fail
  refine(c2.out _ g.out).mono ?_;rintro e I ⟨⟨a,H,i,f,rfl,S,m,M⟩,o⟩
  obtain⟨w3,r⟩:=Nm (I.alloc (.cells #[.int .i64 a.major,.int .i64 a.minor,.slice a.eA a.ex.length a.eC,.slice H i.length f] 182))
  have q:Below I.heap.size I w3:=r▸ZB
  have h3:w3.heap[I.heap.size]? =some (.cells #[.int .i64 a.major,.int .i64 a.minor,.slice a.eA a.ex.length a.eC,.slice H i.length f] 182 (0,0)):=by rw[r];exact heap_alloc_new I _
  have F:=Hp (M.below q)
  have b6:=Hp m
  have a7:=Hp S
  have a9:=Hp ((g.trans (o.mono g.size)).trans (q.mono (GY1 g.size o.size)))
  have B:=GY0 (ZL p.out) o.size
  have a3:=Hp ((q.block (w.heap.size+1) B).trans ((o.block (w.heap.size+1) (ZL p)).trans p))
  have H3:=Hp h3
  have cS:=Hp (Ip I.heap.size w1.heap.size a.major a.minor (.slice a.eA a.ex.length a.eC) H f i w3 h3 F.mods.row (GY1 o.size q.size) (MK m (n:=256) fun x hx=>(aY (F1.out x hx)).2.2.1) (Jk m.symm F2.out) (by have:=nY m;have:=(oL HE.symm).2.2.1;omega))
  obtain⟨j1,j2⟩:=step_like m 0
  have J2:=Hp j2
  have Z:=Hp (Je i 0)
  rw[j1,<-a4.out]at cS
  have b1:=r.symm
  clear o M r q h3 m S m0 m1 m2 m3 j1 j2 B
  go_wp2_with (go_at_call 122;refine(cS.out).mono ?_;rintro e w5 ⟨rfl,N,u,V⟩;have a5:=Hp N;have a6:=Hp u;have a8:=Hp V;obtain⟨b5,p0,p1,p2,p3,_⟩:=aB (u _ _ _ _ H3.out (by decide));obtain⟨v,r0,r1,r2,r3,f0,Y,f2,f3⟩:=aB (u _ _ _ _ a3.out (by decide));clear N u V)
  obtain⟨hg,O⟩:=gY v.out (.int .i64 a.major) (.int .i64 a.minor) (.slice a.eA a.ex.length a.eC) (.slice H i.length f)
  refine bodyPost_ret (dR rfl _ _ (w.heap.size+1) 39 _ (0,0) _ rfl hg Tryz.underlying39 rfl Tryz.RP) rfl ?_
  have a2:=O.kp v.out (ts:=[83,39]) (by simp)
  have R:Kp [83,39] w3 _:=(a6.mono (by simp)).trans a2
  have Q:=O.kp v.out (ts:=[39]) (by simp)
  have b:w.heap.size<=w1.heap.size:=g.size
  have P:((Rj 0 i).getD i).length=i.length:=kL Z.out
  have a1:rgV a H ((Rj 0 i).getD i) f=rgV a H i f:=by unfold rgV;rw[P]
  refine⟨⟨a,H,(Rj 0 i).getD i,f,by rw[a1];rfl,⟨⟨RH (own_kp F.ex R (by decide)) b,⟨by rw[P];exact RH (own_kp a5.out Q (by decide)) b,fun x hx=>?_⟩⟩,a7.out,J2.out⟩⟩,?_⟩
  ·obtain⟨y,hy,e⟩:=oF Z.symm hx
   rw[<-e]
   exact((F.mods.each y hy).kp R (by decide) (by decide) (by decide)).le b
  ·exact(a9.trans (a8.mono b)).trans ((O.below (GY2 (ZL v.out))).mono (by omega))
 ·have t':(E != 0)=true:=by simp[t]
  have T:=Hp t
  clear t
  go_enter Tryz.func52,Tryz.ntmps52
  go_wp2_with fail
  refine(c1.out _ J.out).mono ?_;rintro e w1 ⟨rfl,d⟩
  have g:=Hp (J.trans (d.mono J.size))
  obtain⟨p,r0,r1,r2,r3,f0,Y,f2,f3⟩:=aB ((d.block (w.heap.size+1) (ZL z.out)).trans z.out)
  clear d k0 k1 k2 k3
  go_wp2_with fail
  obtain⟨hg,O⟩:=gY p.out (.int .i64 0) (.int .i64 0) (.slice none 0 0) (.slice none 0 0)
  refine bodyPost_ret (dR rfl _ _ (w.heap.size+1) 39 _ (0,0) _ rfl hg Tryz.underlying39 rfl Tryz.RP) rfl ?_
  refine⟨⟨Rk,none,[],0,by rw[GY7 T.out];rfl,oI _ _ T.out _ _⟩,g.trans ((O.below (GY2 (ZL p.out))).mono (by omega))⟩
theorem CPack_any (k:Krn)(A:Option Addr)(c:Nat)(l:List Plc)(w:World)(V:k.ok w)(h:aU w A l):
  Calls Tryz.prog 53 #[rgV k A l c] w fun e w'=>(∃(n:Nat)(k':Krn)(A':Option Addr)(l':List Plc)(c':Nat),e=.returned (.tuple #[rgV k' A' l' c',.int .i64 n,.int .i64 (aZ k l)])/\n=(if aZ k l≠0 then 0 else(bI 0 l).2)/\UQ w' w.heap.size k' A' l' c' (wK (aZ k l) k) (wL (aZ k l) (bI 0 l).1))/\Below w.heap.size w w':=by
 obtain⟨F,p⟩:=Nm (w.alloc (.cells #[.int .i64 k.major,.int .i64 k.minor,.slice k.eA k.ex.length k.eC,.slice A l.length c] 39))
 obtain⟨g0,g1,g2,g3,S,x⟩:=oJ p
 obtain⟨L,f⟩:=Nm (F.alloc (.cells #[.int .i64 0,.int .i64 0,.slice none 0 0,.slice none 0 0] 39))
 have I:Below F.heap.size F L:=f▸ZB
 have H:L.heap.size=w.heap.size+2:=by rw[f];simp;omega
 have s:=Hp (show L.heap[w.heap.size+1]? =some (.cells #[.int .i64 0,.int .i64 0,.slice none 0 0,.slice none 0 0] 39 (0,0)) by rw[f,<-S];exact heap_alloc_new F _)
 have B:=Hp (show L.heap[w.heap.size]? =some (.cells #[.int .i64 k.major,.int .i64 k.minor,.slice k.eA k.ex.length k.eC,.slice A l.length c] 39 (0,0)) by rw[f,heap_alloc_old F _ (by omega),p];exact heap_alloc_new w _)
 obtain⟨_,k0,k1,k2,k3,_⟩:=aB B.out
 have C:=Hp (x.trans (I.mono x.size))
 have a4:=Hp H
 have HP:=Hp h
 have HK:=Hp V
 have Z:=Hp (fun W(J:Below w.heap.size w W)=>jE k A c l W (V.below J) (h.below J))
 obtain⟨E,Y⟩:=Nm (aZ k l)
 have HE:=Hp Y
 rw[<-Y]at Z ⊢
 have a3:=p.symm
 have a1:=f.symm
 clear p f x I V h g0 g1 g2 g3 H Y
 by_cases t:E=0
 ·obtain⟨P,O,N,f4⟩:=oL (HE.symm.trans t)
  have c2:=Hp (fun W(J:Below w.heap.size w W)=>FP k A c l W (HK.below J) (HP.below J) P O N f4)
  subst t
  clear P O N f4
  go_enter Tryz.func53,Tryz.ntmps53
  go_wp2_with fail
  refine(Z.out _ C.out).mono ?_;rintro e R ⟨rfl,b⟩
  have d:=Hp (C.trans (b.mono C.size))
  have g:=Hp ((b.block (w.heap.size+1) (ZL s)).trans s)
  obtain⟨_,m0,m1,m2,m3,_⟩:=aB ((b.block w.heap.size (ZL B.out)).trans B.out)
  have a5:=Hp b.size
  clear b k0 k1 k2 k3
  go_wp2_with fail
  refine(c2.out _ d.out).mono ?_;rintro e D ⟨⟨a,K,G,m,rfl,q⟩,j⟩
  obtain⟨Q,o⟩:=Nm (D.alloc (.cells #[.int .i64 a.major,.int .i64 a.minor,.slice a.eA a.ex.length a.eC,.slice K G.length m] 39))
  have r:Below D.heap.size D Q:=o▸ZB
  have h3:Q.heap[D.heap.size]? =some (.cells #[.int .i64 a.major,.int .i64 a.minor,.slice a.eA a.ex.length a.eC,.slice K G.length m] 39 (0,0)):=by rw[o];exact heap_alloc_new D _
  have y:=Hp (show UQ Q R.heap.size a K G m k (bI 0 l).1 from⟨q.own.below r,q.RU,q.mods⟩)
  have a0:=Hp ((d.trans (j.mono d.size)).trans (r.mono (GY1 d.size j.size)))
  have v:=GY0 (ZL g.out) j.size
  obtain⟨z,r0,r1,r2,r3,f0,P,O,N⟩:=aB ((r.block (w.heap.size+1) v).trans ((j.block (w.heap.size+1) (ZL g.out)).trans g.out))
  obtain⟨_,p0,p1,p2,p3,_⟩:=aB h3
  have a2:=o.symm
  clear j q r h3 m0 m1 m2 m3 v o
  go_wp2_with fail
  obtain⟨X,M⟩:=gY z.out (.int .i64 a.major) (.int .i64 a.minor) (.slice a.eA a.ex.length a.eC) (.slice K G.length m)
  refine bodyPost_ret (dR rfl _ _ (w.heap.size+1) 39 _ (0,0) _ rfl X Tryz.underlying39 rfl Tryz.RP) rfl ?_
  have U:=M.kp z.out (ts:=[39]) (by simp)
  have i:w.heap.size<=R.heap.size:=d.size
  have u:=y.own.kp U (by decide) (by decide) (by decide) (by decide)
  exact⟨⟨_,a,K,G,m,rfl,rfl,⟨⟨RH u.ex i,u.mods.le i⟩,y.RU,y.mods⟩⟩,a0.trans ((M.below (GY2 (ZL z.out))).mono (by omega))⟩
 ·have t':(E != 0)=true:=by simp[t]
  have T:=Hp t
  clear t
  go_enter Tryz.func53,Tryz.ntmps53
  go_wp2_with fail
  refine(Z.out _ C.out).mono ?_;rintro e R ⟨rfl,b⟩
  have d:=Hp (C.trans (b.mono C.size))
  obtain⟨g,r0,r1,r2,r3,f0,P,O,N⟩:=aB ((b.block (w.heap.size+1) (ZL s.out)).trans s.out)
  clear b k0 k1 k2 k3
  go_wp2_with fail
  obtain⟨X,M⟩:=gY g.out (.int .i64 0) (.int .i64 0) (.slice none 0 0) (.slice none 0 0)
  refine bodyPost_ret (dR rfl _ _ (w.heap.size+1) 39 _ (0,0) _ rfl X Tryz.underlying39 rfl Tryz.RP) rfl ?_
  refine⟨⟨0,Rk,none,[],0,rfl,(by first|rfl|exact(if_pos T.out).symm),oI _ _ T.out _ _⟩,d.trans ((M.below (GY2 (ZL g.out))).mono (by omega))⟩
end
section
open Go.RowKit
theorem Encode_any (m:Mod)(w:World)(g:m.ok w):
  Calls Tryz.prog 55 #[m.v] w fun e s=>e=.returned (.tuple #[.string (if aL m≠0 then⟨#[]⟩else⟨(dK m).toArray⟩),.int .i64 (aL m)])/\Below w.heap.size w s:=by
 obtain⟨k,b⟩:=Nm (w.alloc (.cells #[.string m.name,.int .i64 m.major,.int .i64 m.minor,.string m.text,.slice m.eA m.ex.length m.eC,.slice m.iA m.im.length m.iC,.slice m.pA m.pa.length m.pC] 70))
 obtain⟨J,I,H,G,F,D,C,B,c⟩:=wE b
 have l:=b.symm
 have x:w.heap.size<k.heap.size:=by omega
 have q:=Hp c
 have i:=Hp (oM m k (g.below c))
 have f:=Hp (fun W(c:Below w.heap.size w W)y=>Jg m W (g.below c) y)
 obtain⟨E,p⟩:=Nm (aL m)
 rw[<-p]at i f ⊢
 clear b c g p
 by_cases d:E=0
 ·obtain rfl:=d
  rw[if_neg (by omega)]
  have z:=Hp (fun W c=>f.out W c rfl)
  clear f
  go_enter Tryz.func55,Tryz.ntmps55
  go_wp2_with (first|(go_at_call 113;refine(i.out).mono ?_;rintro e j ⟨rfl,a⟩;obtain⟨o,n⟩:=aJ a;have u:w.heap.size<j.heap.size:=(by have:=a.size;omega);have r:=Hp (q.trans (a.mono (by omega))))|(go_at_call 126;refine(z.out _ r.out).mono ?_;rintro e A ⟨rfl,h⟩))
  go_ret2
  exact⟨rfl,r.trans (h.mono (by omega))⟩
 ·have t:(E != 0)=true:=by simp[d]
  rw[if_pos d]
  clear d f
  go_enter Tryz.func55,Tryz.ntmps55
  go_wp2_with (first|(go_at_call 113;refine(i.out).mono ?_;rintro e j ⟨rfl,a⟩))
  go_ret2
  exact⟨rfl,q.trans (a.mono (by omega))⟩
end
section
open Go.RowKit Go.Lib
theorem SE (E:Int)(k i:Krn)(A G:Option Addr)(c O:Nat)(l q:List Plc)(w:World)(y:k.ok w)(h:aU w A l)(m:i.ok w)(M:aU w G q)(K:E=0->k.bare=i.bare/\aD l=aD q)(L:E≠0->k.bare=Rk/\l=[]):
  Calls Tryz.prog 43 #[rgV k A l c,.int .i64 E,.int .i64 E,rgV i G q O] w fun e I=>e=.returned (.bool true)/\Below w.heap.size w I:=by
 obtain⟨Q,j⟩:=Nm (w.alloc (.cells #[.int .i64 k.major,.int .i64 k.minor,.slice k.eA k.ex.length k.eC,.slice A l.length c] 39))
 obtain⟨D,C,B,z,s,d⟩:=oJ j
 obtain⟨x0,f⟩:=Nm (Q.alloc (.cells #[.int .i64 i.major,.int .i64 i.minor,.slice i.eA i.ex.length i.eC,.slice G q.length O] 39))
 obtain⟨U,T,S,R,r,a⟩:=oJ f
 rw[s]at U T S R
 have k0:=(a.cell (p:=⟨w.heap.size,0,none⟩) (by simp;omega)).trans D
 have k1:=(a.cell (p:=⟨w.heap.size,1,none⟩) (by simp;omega)).trans C
 have k2:=(a.cell (p:=⟨w.heap.size,2,none⟩) (by simp;omega)).trans B
 have k3:=(a.cell (p:=⟨w.heap.size,3,none⟩) (by simp;omega)).trans z
 have F:=Hp (d.trans (a.mono d.size))
 have v:=j.symm
 by_cases t:E=0
 ·obtain⟨x,V⟩:=K t
  have N:=Hp (fun W(n:Below w.heap.size w W)=>Rw k i A G c O l q W (y.below n) (h.below n) (m.below n) (M.below n) x V)
  have u:=f.symm
  subst t
  clear j f d a y h m M r D C B z K L x V
  go_enter Tryz.func43,Tryz.ntmps43
  go_wp2_with fail
  refine(N.out _ F.out).mono ?_;rintro e w1 ⟨rfl,g⟩
  have o:=Hp (F.trans (g.mono F.size))
  clear g
  go_wp2_with fail
  go_ret
  exact⟨by simp,o.out⟩
 ·obtain⟨x,rfl⟩:=L t
  have t':(E != 0)=true:=by simp[t]
  obtain⟨z0,J⟩:=Nm (Q.alloc (.cells #[.int .i64 0,.int .i64 0,.slice none 0 0,.slice none 0 0] 39))
  obtain⟨n0,n1,n2,n3,a0,b⟩:=oJ J
  have P:=Hp (d.trans (b.mono d.size))
  rw[s]at n0 n1 n2 n3
  have Z:=(b.cell (p:=⟨w.heap.size,0,none⟩) (by simp;omega)).trans D
  have Y:=(b.cell (p:=⟨w.heap.size,1,none⟩) (by simp;omega)).trans C
  have X:=(b.cell (p:=⟨w.heap.size,2,none⟩) (by simp;omega)).trans B
  have H:=(b.cell (p:=⟨w.heap.size,3,none⟩) (by simp;omega)).trans z
  simp only[List.length_nil]at H
  have N:=Hp (show∀W,Below w.heap.size w W->Calls Tryz.prog 22 #[rgV k A [] c,.agg #[.int .i64 0,.int .i64 0,.slice none 0 0,.slice none 0 0]] W fun e I=>e=.returned (.bool true)/\Below W.heap.size W I from
   fun W n=>Rw k Rk A none c 0 [] [] W (y.below n) (h.below n) (Sg W) ⟨Row.nil,Nat.zero_le _,by simp⟩ x rfl)
  have a1:=J.symm
  have u:=Hp f.symm
  clear j f d a y h m M r D C B z K L x U T S R k0 k1 k2 k3 F J b t
  simp only[List.length_nil]at v
  go_enter Tryz.func43,Tryz.ntmps43
  go_wp2_with fail
  refine(N.out _ P.out).mono ?_;rintro e w1 ⟨rfl,g⟩
  have o:=Hp (P.trans (g.mono P.size))
  clear g
  go_wp2_with fail
  go_ret
  exact⟨by simp,o.out⟩
end
section
open Go
open Go.RowKit Go.Lib
inductive Alk :Value->Value->Prop
 |same (v:Value):Alk v v
 |str (s s':ByteArray):Alk (.string s) (.string s')
 |int (k:IntKind) (n n':Int):Alk (.int k n) (.int k n')
theorem Alk.trans {a b c:Value}(h:Alk a b)(d:Alk b c):Alk a c:=by
 cases h with
 |same=>exact d
 |str=>cases d with
  |same=>exact .str _ _
  |str=>exact .str _ _
 |int=>cases d with
  |same=>exact .int _ _ _
  |int=>exact .int _ _ _
structure Sp (base:Nat)(W W':World):Prop where
 bel:Below base W W'
 each:∀b i v,W.cell? ⟨b,i,none⟩=some v->(∃v',W'.cell? ⟨b,i,none⟩=some v'/\Alk v v')/\W'.frozen? ⟨b,i,none⟩=W.frozen? ⟨b,i,none⟩
theorem Sp.refl (a:Nat)(W:World):Sp a W W:=⟨GZ4 _ _,fun _ _ v h=>⟨⟨v,h,.same v⟩,rfl⟩⟩
theorem Sp.trans {base:Nat}{W d c:World}(h:Sp base W d)(a:Sp base d c):Sp base W c:=by
 refine⟨h.bel.trans a.bel,fun b i v g=>?_⟩
 obtain⟨⟨f,k,o⟩,m⟩:=h.each b i v g
 obtain⟨⟨e,j,n⟩,l⟩:=a.each b i f k
 exact⟨⟨e,j,o.trans n⟩,l.trans m⟩
theorem Sp.of_below {a:Nat}{W e:World}(h:Below W.heap.size W e)(f:a<=W.heap.size):Sp a W e:=by
 refine⟨h.mono f,fun b i v c=>?_⟩
 have d:b<W.heap.size:=World.block_lt_of_cell? W _ c
 exact⟨⟨v,(h.cell (p:=⟨b,i,none⟩) d).trans c,.same v⟩,h.frozen (p:=⟨b,i,none⟩) d⟩
theorem Sp.set {a:Nat}{W:World}{b i:Nat}{v d:Value}(h:W.cell? ⟨b,i,none⟩=some v)(j:Alk v d)(g:a<=b):Sp a W (W.setCell ⟨b,i,none⟩ d):=by
 refine⟨(GZ4 _ _).setCell (p:=⟨b,i,none⟩) g _,fun k f u c=>⟨?_,by rw[World.frozen?_setCell]⟩⟩
 by_cases e:(⟨b,i,none⟩:Addr)=⟨k,f,none⟩
 ·rw[<-e]at c ⊢
  rw[h]at c
  obtain rfl:=GY3 c
  exact⟨d,World.cell?_setCell_same _ _ _ h,j⟩
 ·exact⟨u,(World.cell?_setCell_other _ _ _ _ e).trans c,.same u⟩
theorem Sp.le {b a:Nat}{W c:World}(h:Sp b W c)(d:a<=b):Sp a W c:=⟨h.bel.mono d,h.each⟩
theorem Sp.size {base:Nat}{W a:World}(h:Sp base W a):W.heap.size<=a.heap.size:=h.bel.size
theorem Sp.str {a:Nat}{W d:World}{b i:Nat}{s:ByteArray}(h:Sp a W d)(f:W.cell? ⟨b,i,none⟩=some (.string s)):∃e,d.cell? ⟨b,i,none⟩=some (.string e):=by
 obtain⟨⟨v,c,g⟩,_⟩:=h.each b i _ f
 cases g with
 |same=>exact⟨_,c⟩
 |str=>exact⟨_,c⟩
theorem Sp.num {a:Nat}{W d:World}{b i:Nat}{k:IntKind}{n:Int}(h:Sp a W d)(f:W.cell? ⟨b,i,none⟩=some (.int k n)):∃e,d.cell? ⟨b,i,none⟩=some (.int k e):=by
 obtain⟨⟨v,c,g⟩,_⟩:=h.each b i _ f
 cases g with
 |same=>exact⟨_,c⟩
 |int=>exact⟨_,c⟩
theorem Sp.slc {a:Nat}{W d:World}{b i:Nat}{A:Option Addr}{n c:Nat}(h:Sp a W d)(e:W.cell? ⟨b,i,none⟩=some (.slice A n c)):d.cell? ⟨b,i,none⟩=some (.slice A n c):=by
 obtain⟨⟨v,g,f⟩,_⟩:=h.each b i _ e
 cases f with
 |same=>exact g
theorem own_place {w:World}{a size n c:Nat}{e:TypeId}{A:Option Addr}{b:List Value}(h:w.ownsRow a e size (.slice A n c) n b)(p:0<n):
  ∃g,A=some ⟨g,0,none⟩/\(∀k u,b[k]? =some u->w.cell? ⟨g,k,none⟩=some u)/\(∀k,w.frozen? ⟨g,k,none⟩=false)/\a<=g/\g<w.heap.size:=by
 rcases h.2 with⟨s,r⟩|⟨g,o,m,f,q,j,_⟩
 ·omega
 ·injection f with e1 _ e2
  subst e1 e2
  have d:=World.ownsRow.lt h g rfl
  have l:=h.cells (g:=g) rfl
  refine⟨g,rfl,fun k u i=>?_,fun k=>?_,d.1,d.2⟩
  ·have:=l k u i
   have e:(⟨g,0,none⟩:Addr).add k=⟨g,k,none⟩:=by unfold Addr.add;split<;>simp_all
   rwa [e]at this
  ·simp[World.frozen?,j]
structure StrAt (W0:World)(base:Nat)(A:Option Addr)(n k o:Nat):Prop where
 each:∀j,j<n->∃g s,A=some ⟨g,0,none⟩/\W0.cell? ⟨g,j*k+o,none⟩=some (.string s)/\W0.frozen? ⟨g,j*k+o,none⟩=false/\base<=g/\g<W0.heap.size
structure IntAt (W0:World)(base:Nat)(A:Option Addr)(n k o:Nat):Prop where
 each:∀j,j<n->∃g x,A=some ⟨g,0,none⟩/\W0.cell? ⟨g,j*k+o,none⟩=some (.int .i64 x)/\W0.frozen? ⟨g,j*k+o,none⟩=false/\base<=g/\g<W0.heap.size
theorem str_at {α:Type}{enc:α->List Value}{k o:Nat}(i:∀x,(enc x).length=k)(d:o<k)(b:∀x,∃s,(enc x)[o]? =some (.string s)){W:World}{a c:Nat}{e:TypeId}{A:Option Addr}{l:List α}(h:W.ownsRow a e k (.slice A l.length c) l.length (l.flatMap enc)):StrAt W a A l.length k o:=by
 refine⟨fun j m=>?_⟩
 obtain⟨g,rfl,p,n,q,f⟩:=own_place h (by omega)
 obtain⟨s,r⟩:=b l[j]
 exact⟨g,s,rfl,p _ _ ((flat_get i l j o m d).trans r),n _,q,f⟩
theorem int_at_ {α:Type}{enc:α->List Value}{k o:Nat}(i:∀x,(enc x).length=k)(d:o<k)(b:∀x,∃s,(enc x)[o]? =some (.int .i64 s)){W:World}{a c:Nat}{e:TypeId}{A:Option Addr}{l:List α}(h:W.ownsRow a e k (.slice A l.length c) l.length (l.flatMap enc)):IntAt W a A l.length k o:=by
 refine⟨fun j m=>?_⟩
 obtain⟨g,rfl,p,n,q,f⟩:=own_place h (by omega)
 obtain⟨s,r⟩:=b l[j]
 exact⟨g,s,rfl,p _ _ ((flat_get i l j o m d).trans r),n _,q,f⟩
theorem StrAt.now {b W:World}{a:Nat}{A:Option Addr}{n k o:Nat}(h:StrAt b a A n k o)(c:Sp a b W){j:Nat}(i:j<n):∃g s,A=some ⟨g,0,none⟩/\W.cell? ⟨g,j*k+o,none⟩=some (.string s)/\W.frozen? ⟨g,j*k+o,none⟩=false/\a<=g/\g<b.heap.size:=by
 obtain⟨g,s,e,d,q,p,m⟩:=h.each j i
 obtain⟨f,l⟩:=c.str d
 exact⟨g,f,e,l,(c.each _ _ _ d).2.trans q,p,m⟩
theorem IntAt.now {b W:World}{a:Nat}{A:Option Addr}{n k o:Nat}(h:IntAt b a A n k o)(c:Sp a b W){j:Nat}(i:j<n):∃g s,A=some ⟨g,0,none⟩/\W.cell? ⟨g,j*k+o,none⟩=some (.int .i64 s)/\W.frozen? ⟨g,j*k+o,none⟩=false/\a<=g/\g<b.heap.size:=by
 obtain⟨g,s,e,d,q,p,m⟩:=h.each j i
 obtain⟨f,l⟩:=c.num d
 exact⟨g,f,e,l,(c.each _ _ _ d).2.trans q,p,m⟩
structure SpX (base:Nat)(W0 W W':World):Prop where
 sp:Sp base W0 W'
 top:∀b,W0.heap.size<=b->b<W.heap.size->W'.heap[b]? =W.heap[b]?
 size:W.heap.size<=W'.heap.size
theorem SpX.refl {a:Nat}{b W:World}(h:Sp a b W):SpX a b W W:=⟨h,fun _ _ _=>rfl,GZ3 _⟩
theorem SpX.trans {base:Nat}{c W g f:World}(h:SpX base c W g)(a:SpX base c g f):SpX base c W f:=
 ⟨a.sp,fun b e d=>(a.top b e (GY0 d h.size)).trans (h.top b e d),GY1 h.size a.size⟩
theorem SpX.alloc {a:Nat}{d W e:World}(h:Sp a d W)(f:a<=d.heap.size)(c:Below W.heap.size W e):SpX a d W e:=
 ⟨h.trans (Sp.of_below c (GY1 f h.size)),fun b _ g=>c.block b g,c.size⟩
theorem SpX.store {e W c:World}{a g i:Nat}{v d:Value}(h:SpX a e W c)(f:c.cell? ⟨g,i,none⟩=some v)(k:Alk v d)(j:a<=g)(n:g<e.heap.size):SpX a e W (c.setCell ⟨g,i,none⟩ d):=
 ⟨h.sp.trans (Sp.set f k j),fun b m l=>(heap_setCell_other c ⟨g,i,none⟩ b d (show b≠g by omega)).trans (h.top b m l),by simpa[World.setCell]using h.size⟩
theorem SpX.blk {a:Nat}{d W e:World}{b:Nat}{o:Obj}(h:SpX a d W e)(f:d.heap.size<=b)(c:W.heap[b]? =some o):e.heap[b]? =some o:=(h.top b f (ZL c)).trans c
theorem spoilModule_any (m:Mod)(t:World)(a:Nat)(C:m.own t a)(W:World)(E:Sp a t W)(d:a<=t.heap.size)(M:m.ex.length<=big)(L:m.im.length<=big)(K:m.pa.length<=big):
  Calls Tryz.prog 60 #[m.v] W fun e J=>(∃u,e=.returned u)/\SpX a t W J:=by
 show Calls Tryz.prog 60 #[.agg #[.string m.name,.int .i64 m.major,.int .i64 m.minor,.string m.text,.slice m.eA m.ex.length m.eC,.slice m.iA m.im.length m.iC,.slice m.pA m.pa.length m.pC]] W _
 have P:=Hp (str_at (enc:=Exp.cells) (k:=2) (o:=0) (fun _=>rfl) (by omega) (fun x=>⟨_,rfl⟩) C.ex)
 have O:=Hp (str_at (enc:=Imp.cells) (k:=4) (o:=1) (fun _=>rfl) (by omega) (fun x=>⟨_,rfl⟩) C.im)
 have N:=Hp (int_at_ (enc:=Pat.cells) (k:=4) (o:=0) (fun _=>rfl) (by omega) (fun x=>⟨_,rfl⟩) C.pa)
 unfold big at M L K
 obtain⟨y,f⟩:=Nm (W.alloc (.cells #[.string m.name,.int .i64 m.major,.int .i64 m.minor,.string m.text,.slice m.eA m.ex.length m.eC,.slice m.iA m.im.length m.iC,.slice m.pA m.pa.length m.pC] 70))
 have w:=Hp (show y.heap[W.heap.size]? =some (.cells #[.string m.name,.int .i64 m.major,.int .i64 m.minor,.string m.text,.slice m.eA m.ex.length m.eC,.slice m.iA m.im.length m.iC,.slice m.pA m.pa.length m.pC] 70 (0,0)) by rw[f];exact heap_alloc_new W _)
 have z:=Hp (SpX.alloc E d (f▸ZB:Below W.heap.size W y))
 have G:=Hp (SpX.refl z.sp)
 have F:=Hp E.size
 have H:=f.symm
 clear C E f d
 go_enter Tryz.func60,Tryz.ntmps60
 go_wp2_with fail
 go_loopw [2] (fun i wr=>∃j:Nat,j<=m.ex.length/\i=.int .i64 j/\SpX a t y wr) (fun i _=>m.ex.length -(intOf i).toNat)
 case atStart=>exact⟨0,by omega,rfl,G.out⟩
 case round=>
  obtain⟨j,I,rfl,b⟩:=hrel
  have A:=Hp b
  have h:=heap_cell (b.blk F.out w.out) 4
  simp only[GZ2,GZ0,GZ1]at h
  by_cases c:j<m.ex.length
  ·have l:(j:Int)<m.ex.length:=by omega
   obtain⟨g,s,q,r,D,p,n⟩:=P.now b.sp c
   rw[q]at h
   rw[Nat.add_zero]at r D
   have B:=Hp (b.store r (Alk.str s ⟨#[63]⟩) p n)
   clear b q p n
   go_wp2_with fail
   go_roundw
   case rel=>exact⟨j+1,c,by go_num,B.out⟩
   case measure=>(simp[intOf];try omega)
  ·clear b
   go_wp2_with fail
   go_loopw [3] (fun i wr=>∃j:Nat,j<=m.im.length/\i=.int .i64 j/\SpX a t y wr) (fun i _=>m.im.length -(intOf i).toNat)
   case atStart=>exact⟨0,by omega,rfl,A.out⟩
   case round=>
    obtain⟨j,I,rfl,b⟩:=hrel
    have A:=Hp b
    have h:=heap_cell (b.blk F.out w.out) 5
    simp only[GZ2,GZ0,GZ1]at h
    by_cases c:j<m.im.length
    ·have l:(j:Int)<m.im.length:=by omega
     obtain⟨g,s,q,r,D,p,n⟩:=O.now b.sp c
     rw[q]at h
     have B:=Hp (b.store r (Alk.str s ⟨#[63]⟩) p n)
     clear b q p n
     go_wp2_with fail
     go_roundw
     case rel=>exact⟨j+1,c,by go_num,B.out⟩
     case measure=>(simp[intOf];try omega)
    ·clear b
     go_wp2_with fail
     go_loopw [4] (fun i wr=>∃j:Nat,j<=m.pa.length/\i=.int .i64 j/\SpX a t y wr) (fun i _=>m.pa.length -(intOf i).toNat)
     case atStart=>exact⟨0,by omega,rfl,A.out⟩
     case round=>
      obtain⟨j,I,rfl,b⟩:=hrel
      have A:=Hp b
      have h:=heap_cell (b.blk F.out w.out) 6
      simp only[GZ2,GZ0,GZ1]at h
      by_cases c:j<m.pa.length
      ·have l:(j:Int)<m.pa.length:=by omega
       obtain⟨g,s,q,r,D,p,n⟩:=N.now b.sp c
       rw[q]at h
       rw[Nat.add_zero]at r D
       have B:=Hp (b.store r (Alk.int .i64 s (-7)) p n)
       clear b q p n
       go_wp2_with fail
       go_roundw
       case rel=>exact⟨j+1,c,by go_num,B.out⟩
       case measure=>(simp[intOf];try omega)
      ·clear b
       go_wp2_with fail
       go_end0
       exact⟨⟨_,rfl⟩,z.trans A.out⟩
theorem plc_now {e W:World}{a c:Nat}{A:Option Addr}{l:List Plc}(h:aP e a (.slice A l.length c) l)(b:Sp a e W){j:Nat}(t:j<l.length):
  ∃g i p n tx y,A=some ⟨g,0,none⟩/\(W.cell? ⟨g,j*8,none⟩=some (.string i)/\W.cell? ⟨g,j*8+1,none⟩=some (.int .i64 p)/\W.cell? ⟨g,j*8+2,none⟩=some (.int .i64 n)/\W.cell? ⟨g,j*8+3,none⟩=some (.string tx)/\
   W.cell? ⟨g,j*8+4,none⟩=some (.slice l[j].m.eA l[j].m.ex.length l[j].m.eC)/\W.cell? ⟨g,j*8+5,none⟩=some (.slice l[j].m.iA l[j].m.im.length l[j].m.iC)/\W.cell? ⟨g,j*8+6,none⟩=some (.slice l[j].m.pA l[j].m.pa.length l[j].m.pC))/\
   W.cell? ⟨g,j*8+7,none⟩=some (.int .i64 y)/\W.frozen? ⟨g,j*8+7,none⟩=false/\a<=g/\g<e.heap.size:=by
 obtain⟨g,rfl,w,v,x,s⟩:=own_place h (by omega)
 have d:∀(o:Nat)u,o<8->(Plc.cells l[j])[o]? =some u->e.cell? ⟨g,j*8+o,none⟩=some u:=fun o u r q=>w _ _ ((flat_get (enc:=Plc.cells) (k:=8) (fun _=>rfl) l j o t r).trans q)
 obtain⟨J,E⟩:=b.str (d 0 _ (by omega) rfl)
 obtain⟨I,D⟩:=b.num (d 1 _ (by omega) rfl)
 obtain⟨H,C⟩:=b.num (d 2 _ (by omega) rfl)
 obtain⟨G,B⟩:=b.str (d 3 _ (by omega) rfl)
 have f:=d 7 _ (by omega) rfl
 obtain⟨F,z⟩:=b.num f
 exact⟨g,J,I,H,G,F,rfl,⟨E,D,C,B,b.slc (d 4 _ (by omega) rfl),b.slc (d 5 _ (by omega) rfl),b.slc (d 6 _ (by omega) rfl)⟩,z,(b.each _ _ _ f).2.trans (v _),x,s⟩
theorem spoilRegistry_any (k:Krn)(A:Option Addr)(l:List Plc)(c:Nat)(q:World)(a:Nat)(K:jS q a k A l c)(W:World)(J:Sp a q W)(d:a<=q.heap.size)(h1:k.ex.length<=big)(h2:l.length<=big)(h3:∀x∈l,x.m.ex.length<=big/\x.m.im.length<=big/\x.m.pa.length<=big):
  Calls Tryz.prog 34 #[rgV k A l c] W fun e H=>(∃u,e=.returned u)/\SpX a q W H:=by
 have HE:=Hp (str_at (enc:=Exp.cells) (k:=2) (o:=0) (fun _=>rfl) (by omega) (fun x=>⟨_,rfl⟩) K.ex)
 have O:=Hp K
 have H3:=Hp h3
 have Q:=Hp d
 have a5:=Hp h2
 unfold big at h1 h2
 obtain⟨E,p⟩:=Nm (W.alloc (.cells #[.int .i64 k.major,.int .i64 k.minor,.slice k.eA k.ex.length k.eC,.slice A l.length c] 39))
 have r:=Hp (show E.heap[W.heap.size]? =some (.cells #[.int .i64 k.major,.int .i64 k.minor,.slice k.eA k.ex.length k.eC,.slice A l.length c] 39 (0,0)) by rw[p];exact heap_alloc_new W _)
 have D:=Hp (SpX.alloc J d (p▸ZB:Below W.heap.size W E))
 have N:=Hp (SpX.refl D.sp)
 have M:=Hp J.size
 have a0:=p.symm
 clear K J p d h3
 go_enter Tryz.func34,Tryz.ntmps34
 go_wp2_with fail
 go_loopw [2] (fun i wr=>∃j:Nat,j<=k.ex.length/\i=.int .i64 j/\SpX a q E wr) (fun i _=>k.ex.length -(intOf i).toNat)
 case atStart=>exact⟨0,by omega,rfl,N.out⟩
 case round=>
  obtain⟨j,hj,rfl,f⟩:=hrel
  have HS:=Hp f
  have R:=heap_cell (f.blk M.out r.out) 2
  simp only[GZ2,GZ0,GZ1]at R
  by_cases b:j<k.ex.length
  ·have v:(j:Int)<k.ex.length:=by omega
   obtain⟨g,s,F,c0,f0,z,w⟩:=HE.now f.sp b
   rw[F]at R
   rw[Nat.add_zero]at c0 f0
   have P:=Hp (f.store c0 (Alk.str s ⟨#[63]⟩) z w)
   clear f F z w
   go_wp2_with fail
   go_roundw
   case rel=>exact⟨j+1,b,by go_num,P.out⟩
   case measure=>(simp[intOf];try omega)
  ·clear f
   go_wp2_with fail
   go_loopw [3] (fun i wr=>∃j:Nat,j<=l.length/\i=.int .i64 j/\SpX a q E wr) (fun i _=>l.length -(intOf i).toNat)
   case atStart=>exact⟨0,by omega,rfl,HS.out⟩
   case round=>
    obtain⟨j,hj,rfl,f⟩:=hrel
    have HT:=Hp f
    have G:=heap_cell (f.blk M.out r.out) 3
    simp only[GZ2,GZ0,GZ1]at G
    by_cases b:j<l.length
    ·have v:(j:Int)<l.length:=by omega
     obtain⟨g,V,Y,X,tx,fi,F,⟨p0,p1,p2,p3,U,T,S⟩,I,f7,z,w⟩:=plc_now O.mods.row f.sp b
     obtain⟨y,Z⟩:=Nm (l[j]'b)
     have h:=O.mods.each _ (GZ9 b)
     have n:=H3.out _ (GZ9 b)
     simp only[<-Z]at U T S h n
     have cS:=Hp (show Calls Tryz.prog 60 #[.agg #[.string V,.int .i64 Y,.int .i64 X,.string tx,.slice y.m.eA y.m.ex.length y.m.eC,.slice y.m.iA y.m.im.length y.m.iC,.slice y.m.pA y.m.pa.length y.m.pC]] wr fun e H=>(∃u,e=.returned u)/\SpX a q wr H from
      spoilModule_any ⟨V,Y,X,tx,y.m.ex,y.m.im,y.m.pa,y.m.eA,y.m.eC,y.m.iA,y.m.iC,y.m.pA,y.m.pC⟩ q a ⟨h.ex,h.im,h.pa⟩ wr f.sp Q.out n.1 n.2.1 n.2.2)
     subst F
     clear f h n Z I f7
     go_wp2_with fail
     refine(cS.out).mono ?_;rintro e w2 ⟨⟨u,rfl⟩,B⟩
     have t:=Hp (HT.trans B)
     obtain⟨g2,a2,a4,a3,a1,L,C,_,I,f7,_,_⟩:=plc_now O.mods.row t.sp b
     obtain rfl:g=g2:=by injection C with e;injection e
     have G:=heap_cell (t.blk M.out r.out) 3
     simp only[GZ2,GZ0,GZ1]at G
     have P:=Hp (t.store I (Alk.int .i64 L (-7)) z w)
     clear B C z w p0 p1 p2 p3 U T S
     go_wp2_with fail
     go_roundw
     case rel=>exact⟨j+1,b,by go_num,P.out⟩
     case measure=>(simp[intOf];try omega)
    ·clear f
     go_wp2_with fail
     go_end0
     exact⟨⟨_,rfl⟩,D.trans HT.out⟩
end
section
open Go.RowKit
theorem gI.trans {a b c:Mod}(h:gI a b)(k:gI b c):gI a c:=⟨h.name.trans k.name,h.major.trans k.major,h.minor.trans k.minor,h.text.trans k.text,h.ex.trans k.ex,h.im.trans k.im,h.pa.trans k.pa⟩
abbrev libBytes :List UInt8:=[3,108,105,98,1,2,8,0,97,98,99,100,101,102,103,104,1,1,102,4,0,0,0]
theorem lib_err (A B C a b c):aL (lW A B C a b c)=0:=by kernel_rfl
theorem app_err (A B C a b c):aL (TH A B C a b c)=0:=by kernel_rfl
theorem lib_enc (A B C a b c):dK (lW A B C a b c)=libBytes:=by kernel_rfl
theorem moduleBegun_any (w:World):Calls Tryz.prog 44 #[] w fun e w'=>e=.returned (.bool true)/\Below w.heap.size w w':=by
 go_enter Tryz.func44,Tryz.ntmps44
 go_wp2_with fail
 refine(KF _).mono ?_;rintro e w1 ⟨⟨A1,B1,C1,a1,b1,c1,rfl,I⟩,r⟩
 have K:=Hp (Encode_any _ w1 I)
 rw[lib_err,if_neg (by omega),lib_enc]at K
 go_wp2_with fail
 refine(K.out).mono ?_;rintro e w2 ⟨rfl,q⟩
 have J:=Hp (Ig libBytes w2 (by unfold big;simp))
 have z:=Iz (lib_err A1 B1 C1 a1 b1 c1)
 rw[lib_enc]at z
 rw[z.1]at J
 go_wp2_with fail
 refine(J.out).mono ?_;rintro e j ⟨⟨m,rfl,x,-,P⟩,p⟩
 have u:=P.trans z.2
 have v:=r.size
 have F:=q.size
 have E:=p.size
 obtain⟨l,n⟩:=Nm (j.alloc (.cells #[.string m.name,.int .i64 m.major,.int .i64 m.minor,.string m.text,.slice m.eA m.ex.length m.eC,.slice m.iA m.im.length m.iC,.slice m.pA m.pa.length m.pC] 70))
 obtain⟨e0,e1,e2,e3,e4,e5,e6,hz,o⟩:=wE n
 have M:=Hp n.symm
 have y:=Hp (show Below w.heap.size w l from r.trans ((q.mono v).trans ((p.mono (by omega)).trans (o.mono (by omega)))))
 have O:=Hp (x.below o)
 have N:=Hp (show∀A B C a b c,gI m (lW A B C a b c) from fun A B C a b c=>u.trans ⟨rfl,rfl,rfl,rfl,rfl,rfl,rfl⟩)
 have Q:j.heap.size<l.heap.size:=by omega
 clear K J z P u x r q p v F E n hz o
 have k:=Hp (show fI l (fun i=>Below l.heap.size l i/\i.cell? ⟨j.heap.size,0,none⟩=some (.string m.name)/\i.cell? ⟨j.heap.size,1,none⟩=some (.int .i64 m.major)/\i.cell? ⟨j.heap.size,2,none⟩=some (.int .i64 m.minor)/\i.cell? ⟨j.heap.size,3,none⟩=some (.string m.text)/\i.cell? ⟨j.heap.size,4,none⟩=some (.slice m.eA m.ex.length m.eC)/\i.cell? ⟨j.heap.size,5,none⟩=some (.slice m.iA m.im.length m.iC)/\i.cell? ⟨j.heap.size,6,none⟩=some (.slice m.pA m.pa.length m.pC)) from dE (by repeat' first|(with_reducible exact bC.cell (by first|omega|(simp;omega)|(simp only[aA];omega)))|refine bC.and ?_ ?_))
 have d:=Hp (k.now ⟨GZ4 _ _,by assumption,by assumption,by assumption,by assumption,by assumption,by assumption,by assumption⟩)
 have g:=Hp k.D
 have f:=Hp k.S
 have h:=Hp k.A
 have s:=Hp k.X
 have t:=Hp k.L
 clear e0 e1 e2 e3 e4 e5 e6
 go_wp2_with fail
 rw[M.out]
 go_region_held3 (fun i=>Below l.heap.size l i/\i.cell? ⟨j.heap.size,0,none⟩=some (.string m.name)/\i.cell? ⟨j.heap.size,1,none⟩=some (.int .i64 m.major)/\i.cell? ⟨j.heap.size,2,none⟩=some (.int .i64 m.minor)/\i.cell? ⟨j.heap.size,3,none⟩=some (.string m.text)/\i.cell? ⟨j.heap.size,4,none⟩=some (.slice m.eA m.ex.length m.eC)/\i.cell? ⟨j.heap.size,5,none⟩=some (.slice m.iA m.im.length m.iC)/\i.cell? ⟨j.heap.size,6,none⟩=some (.slice m.pA m.pa.length m.pC)) (first|exact d.out|exact g.out _ d.out|exact f.out _ _ (by assumption) (by assumption)|exact f.out _ _ d.out (by assumption)|exact f.out _ _ (g.out _ d.out) (by assumption)|exact f.out _ _ (g.out _ (by assumption)) (by assumption)|exact g.out _ (by assumption)|exact h.out _ _ (by assumption)|exact h.out _ _ d.out|exact h.out _ _ (g.out _ d.out)|exact g.out _ (h.out _ _ (by assumption))|exact h.out _ _ (f.out _ _ d.out (by assumption))|exact h.out _ _ (f.out _ _ (g.out _ d.out) (by assumption))|exact s.out _ _ _ _ (GZ3 _) (by assumption)|exact s.out _ _ _ _ (GZ3 _) (f.out _ _ (h.out _ _ d.out) (by assumption))|exact s.out _ _ _ _ (GZ3 _) (f.out _ _ (g.out _ (h.out _ _ d.out)) (by assumption))|assumption) (first|(go_at_call 114;refine(Jr _).mono ?_;rintro e w5 ⟨⟨m1,m2,m3,m4,m5,m6,rfl,H⟩,a5⟩;have R:=Hp (oM _ w5 H);rw[app_err]at R)|(go_at_call 113;refine(R.out).mono ?_;rintro e w6 ⟨rfl,a4⟩)|(go_at_call 112;refine(KF _).mono ?_;rintro e w7 ⟨⟨Z,Y,W,V,U,T,rfl,G⟩,a3⟩)|(go_at_call 51;refine(qA m (lW Z Y W V U T) w7 (N.out Z Y W V U T) (O.below (t.out _ (by assumption))) G).mono ?_;rintro e w8 ⟨rfl,a0⟩))
 have hB:=t.out _ (by assumption)
 clear d g f h t
 go_wp2_with fail
 go_ret
 exact⟨by simp,y.trans (hB.mono y.size)⟩
end
end Go.Proofs.YtjiedaialianmaaGreat
