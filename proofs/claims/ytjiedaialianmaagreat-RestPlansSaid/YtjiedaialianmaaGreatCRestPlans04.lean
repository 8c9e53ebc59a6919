import Derived.Test.YtjiedaialianmaaGreatA24
import Derived.Test.YtjiedaialianmaaGreatCRestPlans01
set_option maxRecDepth 100000
set_option maxHeartbeats 8000000
namespace Go.Proofs.YtjiedaialianmaaGreat
section
open Go.RowKit Go.Lib
def planErr (k:Krn)(a:Cm)(l:List Plc):Int:=if aZ k l≠0 then aZ k l else kP k a l
theorem results_plan {w i:World}{b:Nat}{F:Int}{a k:Krn}{g:Option Addr}{e L:List Plc}{f:Nat}(o:Below w.heap.size w i)(l:w.heap.size<=b)(d:i.heap[b]? =some (.cells #[.int .i64 0,.int .i64 0,.slice none 0 0,.slice none 0 0] 39 (0,0)))
  (c:UQ i w.heap.size a g e f (wK F k) (wL F L)):
  ∃h,h=(((i.setCell ⟨b,0,none⟩ (.int .i64 a.major)).setCell ⟨b,1,none⟩ (.int .i64 a.minor)).setCell ⟨b,2,none⟩ (.slice a.eA a.ex.length a.eC)).setCell ⟨b,3,none⟩ (.slice g e.length f)/\
   h.heap[b]? =some (.cells #[.int .i64 a.major,.int .i64 a.minor,.slice a.eA a.ex.length a.eC,.slice g e.length f] 39 (0,0))/\
   UQ h w.heap.size a g e f (wK F k) (wL F L)/\Below w.heap.size w h:=by
 obtain⟨n,m⟩:=gY d (.int .i64 a.major) (.int .i64 a.minor) (.slice a.eA a.ex.length a.eC) (.slice g e.length f)
 have j:=m.kp d (ts:=[39]) (by simp)
 exact⟨_,rfl,n,⟨c.own.kp j (by decide) (by decide) (by decide) (by decide),c.RU,c.mods⟩,o.trans ((m.below (GY2 (ZL d))).mono l)⟩
theorem UQ.le {W:World}{b d:Nat}{k K:Krn}{A:Option Addr}{l L:List Plc}{c:Nat}(h:UQ W b k A l c K L)(a:d<=b):UQ W d k A l c K L:=⟨⟨RH h.own.ex a,h.own.mods.le a⟩,h.RU,h.mods⟩
theorem checked_any (k:Krn)(A:Option Addr)(c:Nat)(l:List Plc)(q:Cm)(w:World)(K:k.ok w)(h:aU w A l)(hm:q.m.ok w):
  Calls Tryz.prog 100 #[rgV k A l c,q.v] w (U7 w (planErr k q l) k (cmL q l)):=by
 obtain⟨s,g⟩:=Nm (w.alloc (.cells #[.int .i64 k.major,.int .i64 k.minor,.slice k.eA k.ex.length k.eC,.slice A l.length c] 39))
 obtain⟨r,f⟩:=Nm (s.alloc (.cells (cmA q) 102))
 obtain⟨E,d⟩:=Nm (r.alloc (.cells #[.int .i64 0,.int .i64 0,.slice none 0 0,.slice none 0 0] 39))
 have p:Below w.heap.size w s:=g▸ZB
 have o:Below s.heap.size s r:=f▸ZB
 have n:Below r.heap.size r E:=d▸ZB
 have J:s.heap.size=w.heap.size+1:=by rw[g];simp
 have I:r.heap.size=w.heap.size+2:=by rw[f];simp;omega
 have H:E.heap.size=w.heap.size+3:=by rw[d];simp;omega
 have z:s.heap[w.heap.size]? =some (.cells #[.int .i64 k.major,.int .i64 k.minor,.slice k.eA k.ex.length k.eC,.slice A l.length c] 39 (0,0)):=by rw[g];exact heap_alloc_new w _
 have B:r.heap[w.heap.size+1]? =some (.cells (cmA q) 102 (0,0)):=by rw[f,<-J];exact heap_alloc_new s _
 have Q:=Hp ((n.block w.heap.size (by omega)).trans ((o.block w.heap.size (by omega)).trans z))
 have HC:=Hp ((n.block (w.heap.size+1) (by omega)).trans B)
 have G:=Hp (show E.heap[w.heap.size+2]? =some (.cells #[.int .i64 0,.int .i64 0,.slice none 0 0,.slice none 0 0] 39 (0,0)) by rw[d,<-I];exact heap_alloc_new r _)
 have y:=Hp ((p.trans (o.mono p.size)).trans (n.mono (GY1 p.size o.size)))
 obtain⟨_,k0,Z,Y,X,_⟩:=aB Q.out
 have D:=Hp (jE k A c l E (K.below y.out) (h.below y.out))
 have x:=Hp (fun W(M:Below w.heap.size w W)(j:aZ k l=0)=>Ps k A c l q W (K.below M) (h.below M) (hm.below M) j)
 obtain⟨F,hF⟩:=Nm (planErr k q l)
 obtain⟨L,N⟩:=Nm (cmL q l)
 rw[<-N]at x
 rw[<-hF,<-N]
 unfold planErr at hF
 obtain⟨R,hR⟩:=Nm (aZ k l)
 rw[<-hR]at D x hF
 have a2:=g.symm
 have a1:=f.symm
 have a0:=d.symm
 clear g f d p o n z B K h hm N hR H
 by_cases t:R=0
 ·subst t
  rw[if_neg (by omega)]at hF
  rw[<-hF]at x
  clear hF
  go_enter Tryz.func100,Tryz.ntmps100
  go_wp2_with fail
  refine(D.out).mono ?_;rintro e V ⟨rfl,a⟩
  have b:=Hp (y.trans (a.mono y.size))
  have i:=Hp ((a.block _ (ZL G)).trans G)
  have S:=Hp ((a.block _ (ZL HC)).trans HC)
  obtain⟨_,m0,m1,m2,m3,_⟩:=aB ((a.block _ (ZL Q.out)).trans Q.out)
  obtain⟨n0,n1,n2,n3,n4,n5,n6,n7,n8⟩:=dJ S.out
  have C:=Hp (x.out V b.out (by first|trivial|rfl))
  clear a D x k0 Z Y X
  go_wp2_with fail
  refine(C.out).mono ?_;rintro e w2 ⟨⟨k',A',l',c',rfl,j⟩,u⟩
  have O:=Hp (UQ.le j b.size)
  have U:=Hp (b.trans (u.mono b.size))
  obtain⟨P,r0,r1,r2,r3,z0,z1,z2,z3⟩:=aB ((u.block _ (ZL i.out)).trans i.out)
  clear j u C m0 m1 m2 m3 n0 n1 n2 n3 n4 n5 n6 n7 n8
  go_wp2_with fail
  obtain⟨w3,e3,h3,h4,h5⟩:=results_plan U.out (by omega) P.out O.out
  rw[<-e3]
  exact bodyPost_ret (results_cell_tmp rfl _ _ (w.heap.size+2) 39 _ (0,0) _ rfl h3 Tryz.underlying39 rfl Tryz.RP) rfl ⟨⟨k',A',l',c',rfl,h4⟩,h5⟩
 ·rw[if_pos t]at hF
  subst hF
  have t':(F != 0)=true:=by simp[t]
  have T:=Hp t
  clear t x
  go_enter Tryz.func100,Tryz.ntmps100
  go_wp2_with fail
  refine(D.out).mono ?_;rintro e V ⟨rfl,a⟩
  have b:=Hp (y.trans (a.mono y.size))
  obtain⟨i,r0,r1,r2,r3,z0,z1,z2,z3⟩:=aB ((a.block _ (ZL G.out)).trans G.out)
  clear a D k0 Z Y X
  go_wp2_with fail
  obtain⟨hg,ho⟩:=gY i.out (.int .i64 0) (.int .i64 0) (.slice none 0 0) (.slice none 0 0)
  refine bodyPost_ret (results_cell_tmp rfl _ _ (w.heap.size+2) 39 _ (0,0) _ rfl hg Tryz.underlying39 rfl Tryz.RP) rfl ?_
  exact⟨⟨Rk,none,[],0,rfl,oI _ _ T.out _ _⟩,b.trans ((ho.below (GY2 (ZL i.out))).mono (by omega))⟩
theorem PInstall_any (k:Krn)(A:Option Addr)(c:Nat)(l:List Plc)(m:Mod)(w:World)(I:k.ok w)(h:aU w A l)(H:m.ok w):
  Calls Tryz.prog 35 #[rgV k A l c,m.v] w (U7 w (planErr k ⟨1,m,⟨#[]⟩⟩ l) k (cmL ⟨1,m,⟨#[]⟩⟩ l)):=by
 obtain⟨n,b⟩:=Nm (w.alloc (.cells #[.int .i64 k.major,.int .i64 k.minor,.slice k.eA k.ex.length k.eC,.slice A l.length c] 39))
 obtain⟨j,a⟩:=Nm (n.alloc (.cells #[.string m.name,.int .i64 m.major,.int .i64 m.minor,.string m.text,.slice m.eA m.ex.length m.eC,.slice m.iA m.im.length m.iC,.slice m.pA m.pa.length m.pC] 70))
 obtain⟨t,d⟩:=Nm (j.alloc (.cells #[.int .i64 0,.int .i64 0,.slice none 0 0,.slice none 0 0] 39))
 have i:Below w.heap.size w n:=b▸ZB
 have g:Below n.heap.size n j:=a▸ZB
 have f:Below j.heap.size j t:=d▸ZB
 have x:n.heap.size=w.heap.size+1:=by rw[b];simp
 have u:j.heap.size=w.heap.size+2:=by rw[a];simp;omega
 have s:n.heap[w.heap.size]? =some (.cells #[.int .i64 k.major,.int .i64 k.minor,.slice k.eA k.ex.length k.eC,.slice A l.length c] 39 (0,0)):=by rw[b];exact heap_alloc_new w _
 have r:j.heap[w.heap.size+1]? =some (.cells #[.string m.name,.int .i64 m.major,.int .i64 m.minor,.string m.text,.slice m.eA m.ex.length m.eC,.slice m.iA m.im.length m.iC,.slice m.pA m.pa.length m.pC] 70 (0,0)):=by rw[a,<-x];exact heap_alloc_new n _
 have HG:=Hp ((f.block w.heap.size (by omega)).trans ((g.block w.heap.size (by omega)).trans s))
 have HM:=Hp ((f.block (w.heap.size+1) (by omega)).trans r)
 have K:=Hp (show t.heap[w.heap.size+2]? =some (.cells #[.int .i64 0,.int .i64 0,.slice none 0 0,.slice none 0 0] 39 (0,0)) by rw[d,<-u];exact heap_alloc_new j _)
 have p:=Hp ((i.trans (g.mono i.size)).trans (f.mono (GY1 i.size g.size)))
 obtain⟨_,X,W,V,U,_⟩:=aB HG.out
 obtain⟨S,R,Q,P,O,N,M⟩:=RF HM.out
 have y:=Hp (checked_any k A c l ⟨1,m,⟨#[]⟩⟩ t (I.below p.out) (h.below p.out) (H.below p.out))
 obtain⟨F,hF⟩:=Nm (planErr k ⟨1,m,⟨#[]⟩⟩ l)
 obtain⟨L,J⟩:=Nm (cmL ⟨1,m,⟨#[]⟩⟩ l)
 rw[<-hF,<-J]at y ⊢
 have G:=b.symm
 have E:=a.symm
 have D:=d.symm
 clear b a d i g f s r I h H J hF
 go_enter Tryz.func35,Tryz.ntmps35
 go_wp2_with fail
 refine(y.out).mono ?_;rintro e w2 ⟨⟨Y,A',T,c',rfl,q⟩,o⟩
 have z:=Hp (UQ.le q p.size)
 have C:=Hp (p.trans (o.mono p.size))
 obtain⟨B,r0,r1,r2,r3,z0,z1,z2,z3⟩:=aB ((o.block _ (ZL K.out)).trans K.out)
 clear q o y X W V U S R Q P O N M
 go_wp2_with fail
 obtain⟨w3,e3,h3,h4,Z⟩:=results_plan C.out (by omega) B.out z.out
 rw[<-e3]
 exact bodyPost_ret (results_cell_tmp rfl _ _ (w.heap.size+2) 39 _ (0,0) _ rfl h3 Tryz.underlying39 rfl Tryz.RP) rfl ⟨⟨Y,A',T,c',rfl,h4⟩,Z⟩
theorem PRemove_any (k:Krn)(A:Option Addr)(c:Nat)(l:List Plc)(b:ByteArray)(w:World)(y:k.ok w)(h:aU w A l):
  Calls Tryz.prog 36 #[rgV k A l c,.string b] w (U7 w (planErr k ⟨2,jB,b⟩ l) k (cmL ⟨2,jB,b⟩ l)):=by
 obtain⟨f,a⟩:=Nm (w.alloc (.cells #[.int .i64 k.major,.int .i64 k.minor,.slice k.eA k.ex.length k.eC,.slice A l.length c] 39))
 obtain⟨m,d⟩:=Nm (f.alloc (.cells #[.int .i64 0,.int .i64 0,.slice none 0 0,.slice none 0 0] 39))
 have j:Below w.heap.size w f:=a▸ZB
 have g:Below f.heap.size f m:=d▸ZB
 have q:f.heap.size=w.heap.size+1:=by rw[a];simp
 have o:f.heap[w.heap.size]? =some (.cells #[.int .i64 k.major,.int .i64 k.minor,.slice k.eA k.ex.length k.eC,.slice A l.length c] 39 (0,0)):=by rw[a];exact heap_alloc_new w _
 have P:=Hp ((g.block w.heap.size (by omega)).trans o)
 have B:=Hp (show m.heap[w.heap.size+1]? =some (.cells #[.int .i64 0,.int .i64 0,.slice none 0 0,.slice none 0 0] 39 (0,0)) by rw[d,<-q];exact heap_alloc_new f _)
 have p:=Hp (j.trans (g.mono j.size))
 obtain⟨_,H,G,E,D,_⟩:=aB P.out
 have r:=Hp (show Calls Tryz.prog 100 #[rgV k A l c,.agg #[.int .i64 2,.string ⟨#[]⟩,.int .i64 0,.int .i64 0,.string ⟨#[]⟩,.slice none 0 0,.slice none 0 0,.slice none 0 0,.string b]] m (U7 m (planErr k ⟨2,jB,b⟩ l) k (cmL ⟨2,jB,b⟩ l)) from checked_any k A c l ⟨2,jB,b⟩ m (y.below p.out) (h.below p.out) (IL _))
 obtain⟨F,hF⟩:=Nm (planErr k ⟨2,jB,b⟩ l)
 obtain⟨L,z⟩:=Nm (cmL ⟨2,jB,b⟩ l)
 rw[<-hF,<-z]at r ⊢
 have x:=a.symm
 have v:=d.symm
 clear a d j g o y h z hF
 go_enter Tryz.func36,Tryz.ntmps36
 go_wp2_with fail
 refine(r.out).mono ?_;rintro e W ⟨⟨I,Q,C,O,rfl,n⟩,i⟩
 have s:=Hp (UQ.le n p.size)
 have u:=Hp (p.trans (i.mono p.size))
 obtain⟨t,r0,Z,Y,X,U,T,S,R⟩:=aB ((i.block _ (ZL B.out)).trans B.out)
 clear n i r H G E D
 go_wp2_with fail
 obtain⟨V,N,M,K,J⟩:=results_plan u.out (by omega) t.out s.out
 rw[<-N]
 exact bodyPost_ret (results_cell_tmp rfl _ _ (w.heap.size+1) 39 _ (0,0) _ rfl M Tryz.underlying39 rfl Tryz.RP) rfl ⟨⟨I,Q,C,O,rfl,K⟩,J⟩
theorem PUpgrade_any (k:Krn)(A:Option Addr)(c:Nat)(l:List Plc)(m:Mod)(w:World)(I:k.ok w)(h:aU w A l)(H:m.ok w):
  Calls Tryz.prog 37 #[rgV k A l c,m.v] w (U7 w (planErr k ⟨3,m,⟨#[]⟩⟩ l) k (cmL ⟨3,m,⟨#[]⟩⟩ l)):=by
 obtain⟨n,b⟩:=Nm (w.alloc (.cells #[.int .i64 k.major,.int .i64 k.minor,.slice k.eA k.ex.length k.eC,.slice A l.length c] 39))
 obtain⟨j,a⟩:=Nm (n.alloc (.cells #[.string m.name,.int .i64 m.major,.int .i64 m.minor,.string m.text,.slice m.eA m.ex.length m.eC,.slice m.iA m.im.length m.iC,.slice m.pA m.pa.length m.pC] 70))
 obtain⟨t,d⟩:=Nm (j.alloc (.cells #[.int .i64 0,.int .i64 0,.slice none 0 0,.slice none 0 0] 39))
 have i:Below w.heap.size w n:=b▸ZB
 have g:Below n.heap.size n j:=a▸ZB
 have f:Below j.heap.size j t:=d▸ZB
 have x:n.heap.size=w.heap.size+1:=by rw[b];simp
 have u:j.heap.size=w.heap.size+2:=by rw[a];simp;omega
 have s:n.heap[w.heap.size]? =some (.cells #[.int .i64 k.major,.int .i64 k.minor,.slice k.eA k.ex.length k.eC,.slice A l.length c] 39 (0,0)):=by rw[b];exact heap_alloc_new w _
 have r:j.heap[w.heap.size+1]? =some (.cells #[.string m.name,.int .i64 m.major,.int .i64 m.minor,.string m.text,.slice m.eA m.ex.length m.eC,.slice m.iA m.im.length m.iC,.slice m.pA m.pa.length m.pC] 70 (0,0)):=by rw[a,<-x];exact heap_alloc_new n _
 have HG:=Hp ((f.block w.heap.size (by omega)).trans ((g.block w.heap.size (by omega)).trans s))
 have HM:=Hp ((f.block (w.heap.size+1) (by omega)).trans r)
 have K:=Hp (show t.heap[w.heap.size+2]? =some (.cells #[.int .i64 0,.int .i64 0,.slice none 0 0,.slice none 0 0] 39 (0,0)) by rw[d,<-u];exact heap_alloc_new j _)
 have p:=Hp ((i.trans (g.mono i.size)).trans (f.mono (GY1 i.size g.size)))
 obtain⟨_,X,W,V,U,_⟩:=aB HG.out
 obtain⟨S,R,Q,P,O,N,M⟩:=RF HM.out
 have y:=Hp (checked_any k A c l ⟨3,m,⟨#[]⟩⟩ t (I.below p.out) (h.below p.out) (H.below p.out))
 obtain⟨F,hF⟩:=Nm (planErr k ⟨3,m,⟨#[]⟩⟩ l)
 obtain⟨L,J⟩:=Nm (cmL ⟨3,m,⟨#[]⟩⟩ l)
 rw[<-hF,<-J]at y ⊢
 have G:=b.symm
 have E:=a.symm
 have D:=d.symm
 clear b a d i g f s r I h H J hF
 go_enter Tryz.func37,Tryz.ntmps37
 go_wp2_with fail
 refine(y.out).mono ?_;rintro e w2 ⟨⟨Y,A',T,c',rfl,q⟩,o⟩
 have z:=Hp (UQ.le q p.size)
 have C:=Hp (p.trans (o.mono p.size))
 obtain⟨B,r0,r1,r2,r3,z0,z1,z2,z3⟩:=aB ((o.block _ (ZL K.out)).trans K.out)
 clear q o y X W V U S R Q P O N M
 go_wp2_with fail
 obtain⟨w3,e3,h3,h4,Z⟩:=results_plan C.out (by omega) B.out z.out
 rw[<-e3]
 exact bodyPost_ret (results_cell_tmp rfl _ _ (w.heap.size+2) 39 _ (0,0) _ rfl h3 Tryz.underlying39 rfl Tryz.RP) rfl ⟨⟨Y,A',T,c',rfl,h4⟩,Z⟩
end
section
open Go
open Go.RowKit Go.Lib
structure RcInv (w:World)(k:Krn)(A:Option Addr)(c j:Nat)(l:List Plc)(W:World)(vE v:Value)(l':List Plc):Prop where
 out:W.heap[w.heap.size+2]? =some (.cells #[.int .i64 k.major,.int .i64 k.minor,vE,v] 39 (0,0))
 rbox:W.heap[w.heap.size]? =some (.cells #[.int .i64 k.major,.int .i64 k.minor,.slice k.eA k.ex.length k.eC,.slice A l.length c] 39 (0,0))
 res:W.heap[w.heap.size+1]? =some (.cells #[.int .i64 0,.int .i64 0,.slice none 0 0,.slice none 0 0] 39 (0,0))
 ex:ExpOwn W (w.heap.size+3) vE k.ex
 row:aP W (w.heap.size+3) v l'
 each:∀x∈l',x.m.own W (w.heap.size+3)
 like:aD l'=aD (l.take j)
 bel:Below w.heap.size w W
theorem step_plcsB (W:World){k:Array Oper}{o:Oper}{a:Act}{K:Act->World->Prop}{Q:Exit->Act->World->Prop}{E:Prop}(q:o.guard=none)(s x:Operand)
  (B:o.op=.call {callee:=.builtin .append,args:=#[s,x],argTypes:=#[37,37]}) (b:Nat) (v:Value) (i:List Plc) (y:a.eval s=v) (e:aP W b v i)
  (A:Option Addr) (n c:Nat) (g:List Plc) (w:a.eval x=.slice A n c) (C:n=g.length) (z:Row Plc.cells 8 W A g) (r:(i.length+n)*128<=140737488351232) (d:b<=W.heap.size)
  (h:∀j f,aP f b j (i++g)->Below b W f->W.grownBy f v.ownBlock->K (a.put o.dst j) f):if Region.wanted o (yielded k a.tmps)=true then Oper.wp Tryz.prog o a W K Q else E:=by
 subst C
 obtain⟨u,D,p,m,l⟩:=info_parts Tryz.vH
 refine jX W q s x 37 B b 83 u kN 8 128 Tryz.underlying37 D p m l rfl (by decide) v i.length (i.flatMap Plc.cells) y e W.heap.size A g.length c (g.flatMap Plc.cells) w z
  (pG g) (by simp only[maxLen];omega) (by omega) d ?_
 intro j f F t _
 refine h j f ?_ ((GZ4 b W).grown t d (iW e)) t
 unfold aP
 simpa using F
structure RcSt where
 (l0 l1 l2 l3 l4 l5 l6 l7 l8 l9 l10 l11 l12 l13 l14 l15 l16 l17 l18 l19:Bool)
 (t22 t23 t24 t25 t26 t27 t28 t29 t30 t31 t32 t33 t34 t35 t36 t37 t38 t39 t40:Value)
def RcSt.L (s:RcSt):Array Bool:=#[s.l0,s.l1,s.l2,s.l3,s.l4,s.l5,s.l6,s.l7,s.l8,s.l9,s.l10,s.l11,s.l12,s.l13,s.l14,s.l15,s.l16,s.l17,s.l18,s.l19]
def RcSt.a (s:RcSt)(x w v u t r q p o n m l k j i h g f e d c b:Value):Act:={tmps:=#[x,w,v,u,t,r,q,p,o,n,m,l,k,j,i,h,g,f,e,d,c,b,s.t22,s.t23,s.t24,s.t25,s.t26,s.t27,s.t28,s.t29,s.t30,s.t31,s.t32,s.t33,s.t34,s.t35,s.t36,s.t37,s.t38,s.t39,s.t40,undef],defers:=[]}
section
variable (w:World) (k:Krn) (A:Option Addr) (c j:Nat) (l:List Plc) (vE v:Value) (l':List Plc) (y:Plc) (ad:Addr)
structure RcOk (s:RcSt)(W:World):Prop where
 f22:s.l0=true->s.t22=.pointer (some ⟨w.heap.size+2,3,none⟩)
 f23:s.l1=true->s.t23=v
 f24:s.l2=true->s.t24=.pointer (some ⟨w.heap.size,3,none⟩)
 f25:s.l3=true->s.t25=.slice A l.length c
 f26:s.l4=true->s.t26=.int .i64 j
 f27:s.l5=true->s.t27=.pointer (some (ad.add (j*8)))
 f28:s.l6=true->s.t28=.pointer (some (ad.add (j*8)))
 f29:s.l7=true->s.t29=.agg #[.string y.m.name,.int .i64 y.m.major,.int .i64 y.m.minor,.string y.m.text,.slice y.m.eA y.m.ex.length y.m.eC,.slice y.m.iA y.m.im.length y.m.iC,.slice y.m.pA y.m.pa.length y.m.pC]
 f31:s.l9=true->s.t31=.pointer (some ⟨w.heap.size,3,none⟩)
 f32:s.l10=true->s.t32=.slice A l.length c
 f33:s.l11=true->s.t33=.int .i64 j
 f34:s.l12=true->s.t34=.pointer (some (ad.add (j*8)))
 f35:s.l13=true->s.t35=.pointer (some ⟨(ad.add (j*8)).block,(ad.add (j*8)).off+7,none⟩)
 f36:s.l14=true->s.t36=.int .i64 y.first
 f40:s.l18=true->s.t40=.pointer (some ⟨w.heap.size+2,3,none⟩)
 o30:s.l8=true->∃m':Mod,s.t30=.agg #[.string m'.name,.int .i64 m'.major,.int .i64 m'.minor,.string m'.text,.slice m'.eA m'.ex.length m'.eC,.slice m'.iA m'.im.length m'.iC,.slice m'.pA m'.pa.length m'.pC]/\gI m' y.m/\m'.own W (w.heap.size+3)
 o37:s.l15=true->∃m':Mod,s.t37=.agg #[.string m'.name,.int .i64 m'.major,.int .i64 m'.minor,.string m'.text,.slice m'.eA m'.ex.length m'.eC,.slice m'.iA m'.im.length m'.iC,.slice m'.pA m'.pa.length m'.pC,.int .i64 y.first]/\gI m' y.m/\m'.own W (w.heap.size+3)
 o38:s.l16=true->s.l17=false->∃(m':Mod)(b:Nat),s.t38=.slice (some ⟨b,0,none⟩) 1 1/\W.heap[b]? =some (.cells #[.string m'.name,.int .i64 m'.major,.int .i64 m'.minor,.string m'.text,.slice m'.eA m'.ex.length m'.eC,.slice m'.iA m'.im.length m'.iC,.slice m'.pA m'.pa.length m'.pC,.int .i64 y.first] 83 (0,0))/\gI m' y.m/\m'.own W (w.heap.size+3)
 o39:s.l17=true->∃(m':Mod)(A':Option Addr)(c':Nat),s.t39=.slice A' (l'.length+1) c'/\aP W (w.heap.size+3) (.slice A' (l'.length+1) c') (l'++[⟨m',y.first⟩])/\gI m' y.m/\m'.own W (w.heap.size+3)
 d19:s.l19=true->s.l17=true
 e19:s.l19=true->s.l1=true
 row:s.l17=false->aP W (w.heap.size+3) v l'
 out:W.heap[w.heap.size+2]? =some (.cells #[.int .i64 k.major,.int .i64 k.minor,vE,cond s.l19 s.t39 v] 39 (0,0))
 rbox:W.heap[w.heap.size]? =some (.cells #[.int .i64 k.major,.int .i64 k.minor,.slice k.eA k.ex.length k.eC,.slice A l.length c] 39 (0,0))
 res:W.heap[w.heap.size+1]? =some (.cells #[.int .i64 0,.int .i64 0,.slice none 0 0,.slice none 0 0] 39 (0,0))
 ex:ExpOwn W (w.heap.size+3) vE k.ex
 each:∀x∈l',x.m.own W (w.heap.size+3)
 bel:Below w.heap.size w W
end
section
variable {w:World} {k:Krn} {A:Option Addr} {c j:Nat} {l:List Plc} {vE v:Value} {l':List Plc} {y:Plc} {ad:Addr} {s:RcSt} {W W':World}
theorem rcExt (h:RcOk w k A c j l vE v l' y ad s W)(a:Below W.heap.size W W'):RcOk w k A c j l vE v l' y ad s W':=
 {h with o30:=fun e=>(h.o30 e).imp fun _ q=>⟨q.1,q.2.1,q.2.2.below a⟩,o37:=fun e=>(h.o37 e).imp fun _ q=>⟨q.1,q.2.1,q.2.2.below a⟩,o38:=fun e d=>(h.o38 e d).imp fun _=>Exists.imp fun _ q=>⟨q.1,(a.block _ (ZL q.2.1)).trans q.2.1,q.2.2.1,q.2.2.2.below a⟩,o39:=fun e=>(h.o39 e).imp fun _=>Exists.imp fun _=>Exists.imp fun _ q=>⟨q.1,aO q.2.1 a,q.2.2.1,q.2.2.2.below a⟩,row:=fun e=>aO (h.row e) a,out:=(a.block _ (ZL h.out)).trans h.out,rbox:=(a.block _ (ZL h.rbox)).trans h.rbox,res:=(a.block _ (ZL h.res)).trans h.res,ex:=aO h.ex a,each:=fun x b=>(h.each x b).below a,bel:=h.bel.trans (a.mono h.bel.size)}
theorem rcs0 (h:RcOk w k A c j l vE v l' y ad s W):RcOk w k A c j l vE v l' y ad {s with l0:=true,t22:=.pointer (some ⟨w.heap.size+2,3,none⟩)} W:={h with f22:=fun _=>rfl}
theorem rcs1 (h:RcOk w k A c j l vE v l' y ad s W):RcOk w k A c j l vE v l' y ad {s with l1:=true,t23:=v} W:={h with f23:=fun _=>rfl,e19:=fun _=>rfl}
theorem rcs2 (h:RcOk w k A c j l vE v l' y ad s W):RcOk w k A c j l vE v l' y ad {s with l2:=true,t24:=.pointer (some ⟨w.heap.size,3,none⟩)} W:={h with f24:=fun _=>rfl}
theorem rcs3 (h:RcOk w k A c j l vE v l' y ad s W):RcOk w k A c j l vE v l' y ad {s with l3:=true,t25:=.slice A l.length c} W:={h with f25:=fun _=>rfl}
theorem rcs4 (h:RcOk w k A c j l vE v l' y ad s W):RcOk w k A c j l vE v l' y ad {s with l4:=true,t26:=.int .i64 j} W:={h with f26:=fun _=>rfl}
theorem rcs5 (h:RcOk w k A c j l vE v l' y ad s W):RcOk w k A c j l vE v l' y ad {s with l5:=true,t27:=.pointer (some (ad.add (j*8)))} W:={h with f27:=fun _=>rfl}
theorem rcs6 (h:RcOk w k A c j l vE v l' y ad s W):RcOk w k A c j l vE v l' y ad {s with l6:=true,t28:=.pointer (some (ad.add (j*8)))} W:={h with f28:=fun _=>rfl}
theorem rcs7 (h:RcOk w k A c j l vE v l' y ad s W):RcOk w k A c j l vE v l' y ad {s with l7:=true,t29:=.agg #[.string y.m.name,.int .i64 y.m.major,.int .i64 y.m.minor,.string y.m.text,.slice y.m.eA y.m.ex.length y.m.eC,.slice y.m.iA y.m.im.length y.m.iC,.slice y.m.pA y.m.pa.length y.m.pC]} W:={h with f29:=fun _=>rfl}
theorem rcs9 (h:RcOk w k A c j l vE v l' y ad s W):RcOk w k A c j l vE v l' y ad {s with l9:=true,t31:=.pointer (some ⟨w.heap.size,3,none⟩)} W:={h with f31:=fun _=>rfl}
theorem rcs10 (h:RcOk w k A c j l vE v l' y ad s W):RcOk w k A c j l vE v l' y ad {s with l10:=true,t32:=.slice A l.length c} W:={h with f32:=fun _=>rfl}
theorem rcs11 (h:RcOk w k A c j l vE v l' y ad s W):RcOk w k A c j l vE v l' y ad {s with l11:=true,t33:=.int .i64 j} W:={h with f33:=fun _=>rfl}
theorem rcs12 (h:RcOk w k A c j l vE v l' y ad s W):RcOk w k A c j l vE v l' y ad {s with l12:=true,t34:=.pointer (some (ad.add (j*8)))} W:={h with f34:=fun _=>rfl}
theorem rcs13 (h:RcOk w k A c j l vE v l' y ad s W):RcOk w k A c j l vE v l' y ad {s with l13:=true,t35:=.pointer (some ⟨(ad.add (j*8)).block,(ad.add (j*8)).off+7,none⟩)} W:={h with f35:=fun _=>rfl}
theorem rcs14 (h:RcOk w k A c j l vE v l' y ad s W):RcOk w k A c j l vE v l' y ad {s with l14:=true,t36:=.int .i64 y.first} W:={h with f36:=fun _=>rfl}
theorem rcs18 (h:RcOk w k A c j l vE v l' y ad s W):RcOk w k A c j l vE v l' y ad {s with l18:=true,t40:=.pointer (some ⟨w.heap.size+2,3,none⟩)} W:={h with f40:=fun _=>rfl}
theorem rcs8 (h:RcOk w k A c j l vE v l' y ad s W){a:Mod}(b:Below W.heap.size W W')(e:gI a y.m)(d:a.own W' W.heap.size):RcOk w k A c j l vE v l' y ad {s with l8:=true,t30:=.agg #[.string a.name,.int .i64 a.major,.int .i64 a.minor,.string a.text,.slice a.eA a.ex.length a.eC,.slice a.iA a.im.length a.iC,.slice a.pA a.pa.length a.pC]} W':=
 have f:=rcExt h b
 {f with o30:=fun _=>⟨a,rfl,e,d.le (by have:=(ZL h.out);omega)⟩}
theorem rcs15 (h:RcOk w k A c j l vE v l' y ad s W){a:Mod}(b:gI a y.m/\a.own W (w.heap.size+3)):RcOk w k A c j l vE v l' y ad {s with l15:=true,t37:=.agg #[.string a.name,.int .i64 a.major,.int .i64 a.minor,.string a.text,.slice a.eA a.ex.length a.eC,.slice a.iA a.im.length a.iC,.slice a.pA a.pa.length a.pC,.int .i64 y.first]} W:=
 {h with o37:=fun _=>⟨a,rfl,b⟩}
theorem rcs16 (h:RcOk w k A c j l vE v l' y ad s W){a:Mod}(d:gI a y.m/\a.own W (w.heap.size+3)):RcOk w k A c j l vE v l' y ad {s with l16:=true,t38:=.slice (some ⟨W.heap.size,0,none⟩) 1 1} (W.alloc (.cells #[.string a.name,.int .i64 a.major,.int .i64 a.minor,.string a.text,.slice a.eA a.ex.length a.eC,.slice a.iA a.im.length a.iC,.slice a.pA a.pa.length a.pC,.int .i64 y.first] 83)):=
 have b:Below W.heap.size W (W.alloc (.cells #[.string a.name,.int .i64 a.major,.int .i64 a.minor,.string a.text,.slice a.eA a.ex.length a.eC,.slice a.iA a.im.length a.iC,.slice a.pA a.pa.length a.pC,.int .i64 y.first] 83)):=ZB
 have e:=rcExt h b
 {e with o38:=fun _ _=>⟨a,_,rfl,heap_alloc_new W _,d.1,d.2.below b⟩}
theorem rcs17 (h:RcOk w k A c j l vE v l' y ad s W){b:Mod}{f:Option Addr}{d:Nat}(g:gI b y.m/\b.own W (w.heap.size+3))(p:aP W' (w.heap.size+3) (.slice f (l'.length+1) d) (l'++[⟨b,y.first⟩]))(o:Below (w.heap.size+3) W W')(a:Kp [83] W W')(n:s.l19=false):RcOk w k A c j l vE v l' y ad {s with l17:=true,t39:=.slice f (l'.length+1) d} W':=
 {h with o30:=fun e=>(h.o30 e).imp fun _ q=>⟨q.1,q.2.1,q.2.2.kp a (by decide) (by decide) (by decide)⟩,o37:=fun e=>(h.o37 e).imp fun _ q=>⟨q.1,q.2.1,q.2.2.kp a (by decide) (by decide) (by decide)⟩,o38:=fun _ e=>no_tf e,o39:=fun _=>⟨b,f,d,rfl,p,g.1,g.2.kp a (by decide) (by decide) (by decide)⟩,d19:=fun _=>rfl,row:=fun e=>no_tf e,out:=by have:=a _ _ _ _ h.out (by decide);rw[n]at this ⊢;exact this,rbox:=a _ _ _ _ h.rbox (by decide),res:=a _ _ _ _ h.res (by decide),ex:=own_kp h.ex a (by decide),each:=fun x i=>(h.each x i).kp a (by decide) (by decide) (by decide),bel:=h.bel.trans (o.mono (by omega))}
theorem rcs19 (h:RcOk w k A c j l vE v l' y ad s W)(f:s.l17=true)(d:s.l1=true):RcOk w k A c j l vE v l' y ad {s with l19:=true} (W.setCell ⟨w.heap.size+2,3,none⟩ s.t39):=
 have b:Only (w.heap.size+2) W (W.setCell ⟨w.heap.size+2,3,none⟩ s.t39):=Only.set 3 _
 have a:Kp [39] W (W.setCell ⟨w.heap.size+2,3,none⟩ s.t39):=Kp.set h.out (by simp) 3 _
 {h with o30:=fun e=>(h.o30 e).imp fun _ q=>⟨q.1,q.2.1,q.2.2.kp a (by decide) (by decide) (by decide)⟩,o37:=fun e=>(h.o37 e).imp fun _ q=>⟨q.1,q.2.1,q.2.2.kp a (by decide) (by decide) (by decide)⟩,o38:=fun _ i=>absurd (f.symm.trans i) (by decide),o39:=fun e=>(h.o39 e).imp fun _=>Exists.imp fun _=>Exists.imp fun _ q=>⟨q.1,own_kp q.2.1 a (by decide),q.2.2.1,q.2.2.2.kp a (by decide) (by decide) (by decide)⟩,d19:=fun _=>f,e19:=fun _=>d,row:=fun e=>absurd (f.symm.trans e) (by decide),out:=heap_setCell_same W (w.heap.size+2) 3 _ _ _ h.out,rbox:=(b.block _ (ZL h.rbox) (by omega)).trans h.rbox,res:=(b.block _ (ZL h.res) (by omega)).trans h.res,ex:=own_kp h.ex a (by decide),each:=fun x g=>(h.each x g).kp a (by decide) (by decide) (by decide),bel:=h.bel.trans ((b.below (GY2 (ZL h.out))).mono (by omega))}
end
theorem copiedRegistry_any (k:Krn)(A:Option Addr)(c:Nat)(l:List Plc)(w:World)(hk:k.ok w)(h:aU w A l)(hf:RgFit k l):
  Calls Tryz.prog 49 #[rgV k A l c] w fun e w'=>(∃k' A' l' c',e=.returned (rgV k' A' l' c')/\k'.bare=k.bare/\aD l'=aD l/\jS w' w.heap.size k' A' l' c')/\Below w.heap.size w w':=by
 obtain⟨w0,H⟩:=Nm (w.alloc (.cells #[.int .i64 k.major,.int .i64 k.minor,.slice k.eA k.ex.length k.eC,.slice A l.length c] 39))
 obtain⟨x0,G⟩:=Nm (w0.alloc (.cells #[.int .i64 0,.int .i64 0,.slice none 0 0,.slice none 0 0] 39))
 obtain⟨x1,F⟩:=Nm (x0.alloc (.cells #[.int .i64 k.major,.int .i64 k.minor,.slice k.eA k.ex.length k.eC,.slice none 0 0] 39))
 obtain⟨O,D⟩:=Nm (x1.setCell ⟨w.heap.size+2,3,none⟩ (.slice none 0 0))
 obtain⟨x2,E⟩:=Nm (O.alloc (.cells #[] 159))
 have d1:w0.heap.size=w.heap.size+1:=by rw[H];simp
 have d0:x0.heap.size=w.heap.size+2:=by rw[G];simp;omega
 have c9:x1.heap.size=w.heap.size+3:=by rw[F];simp;omega
 have h0:w0.heap[w.heap.size]? =some (.cells #[.int .i64 k.major,.int .i64 k.minor,.slice k.eA k.ex.length k.eC,.slice A l.length c] 39 (0,0)):=by rw[H];exact heap_alloc_new w _
 have T:Below w.heap.size w w0:=H▸ZB
 have S:Below w0.heap.size w0 x0:=G▸ZB
 have R:Below x0.heap.size x0 x1:=F▸ZB
 have Q:Only (w.heap.size+2) x1 O:=D▸Only.set 3 _
 have Y:O.heap.size=w.heap.size+3:=by rw[D,<-c9];simp
 have J:Below O.heap.size O x2:=E▸ZB
 have e3:x0.heap[w.heap.size+1]? =some (.cells #[.int .i64 0,.int .i64 0,.slice none 0 0,.slice none 0 0] 39 (0,0)):=by rw[G,<-d1];exact heap_alloc_new w0 _
 have X:x1.heap[w.heap.size+2]? =some (.cells #[.int .i64 k.major,.int .i64 k.minor,.slice k.eA k.ex.length k.eC,.slice none 0 0] 39 (0,0)):=by rw[F,<-d0];exact heap_alloc_new x0 _
 have e4:O.heap[w.heap.size+2]? =some (.cells #[.int .i64 k.major,.int .i64 k.minor,.slice k.eA k.ex.length k.eC,.slice none 0 0] 39 (0,0)):=by rw[D];exact heap_setCell_same x1 (w.heap.size+2) 3 _ _ _ X
 have M:=(S.block w.heap.size (by omega)).trans h0
 have a9:=Hp ((J.block w.heap.size (by omega)).trans ((Q.block w.heap.size (by omega) (by omega)).trans ((R.block w.heap.size (by omega)).trans M)))
 have e8:=Hp ((J.block (w.heap.size+1) (by omega)).trans ((Q.block (w.heap.size+1) (by omega) (by omega)).trans ((R.block (w.heap.size+1) (by omega)).trans e3)))
 have a8:=Hp ((J.block (w.heap.size+2) (by omega)).trans e4)
 have b0:=Hp ((((T.trans (S.mono T.size)).trans (R.mono (GY1 T.size S.size))).trans ((Q.below (by omega)).mono (by omega))).trans (J.mono (by omega)))
 have f8:=Hp (show x2.heap[O.heap.size]? =some (.cells #[] 159 (0,0)) from E▸heap_alloc_new O _)
 have a1:=Hp hk.ex.1
 have e6:=Hp Y
 have a7:=Hp (show x2.heap.size=w.heap.size+4 by rw[E];simp;omega)
 have f0:=heap_cell h0 0
 have f1:=heap_cell h0 1
 have f2:=heap_cell h0 2
 have f3:=heap_cell M 0
 have f4:=heap_cell M 1
 have f5:=heap_cell M 2
 have e2:=heap_cell a9.out 2
 have o3:=heap_cell X 3
 have p3:=heap_free X 3
 simp only[GZ2,GZ0,GZ1]at f0 f1 f2 f3 f4 f5 e2 o3
 have HP:=Hp h
 have HF:=Hp hf
 have d7:=H.symm
 have d6:=G.symm
 have d5:=F.symm
 have d4:=E.symm
 have d3:=D.symm
 clear H G F E h0 T S R J e3 e4 hk h M hf D Q Y X
 go_enter Tryz.func49,Tryz.ntmps49
 go_wp2_with (at_builtin
              obtain⟨i0,hi,e1,e0,d9⟩:=info_parts Tryz.infoExp
              refine wpList_made x2 rfl (.tmp 8) (.tmp 11) 22 rfl 159 i0 _ 2 24 Tryz.underlying22 hi e1 e0 d9 rfl (by decide) (w.heap.size+3) O.heap.size rfl f8.out (by have:=e6.out;omega) (by have:=a7.out;omega) x2.heap.size k.eA k.ex.length k.eC (k.ex.flatMap Exp.cells) rfl (Row.below a1.out b0.out) (by have:=HF.ex;unfold big at this;simp only[maxLen];omega) (by have:=HF.ex;unfold big at this;omega) ?_
              intro v3 x3 a4 a5
              obtain⟨eA,eC,rfl⟩:=bG a4
              have V:=(a5.block _ (ZL a8.out)).trans a8.out
              have e9:=Hp V
              have c2:=heap_cell V 2
              have d2:=heap_free V 2
              simp only[GZ2,GZ0,GZ1]at c2
              have f7:=Hp a4
              have N:=Hp a5
              clear a4 a5 V hi e1 e0 d9 f0 f1 f2 f3 f4 f5 e2 o3 p3 i0)
 obtain⟨W3,U⟩:=Nm (x3.setCell ⟨w.heap.size+2,2,none⟩ (.slice eA k.ex.length eC))
 rw[<-U]
 have I:Only (w.heap.size+2) x3 W3:=U▸Only.set 2 _
 have g8:=Hp (show RcInv w k A c 0 l W3 (.slice eA k.ex.length eC) (.slice none 0 0) [] from by
  have h1:=N.size
  have h2:=a7.out
  refine⟨by rw[U];exact heap_setCell_same x3 (w.heap.size+2) 2 _ _ _ e9.out,(I.block _ (by omega) (by omega)).trans ((N.block _ (by omega)).trans a9.out),(I.block _ (by omega) (by omega)).trans ((N.block _ (by omega)).trans e8.out),
   own_same f7.out fun g q1 q2=>I.block g q2 (by omega),World.ownsRow_nil _ _ _ _,by simp,rfl,(b0.trans (N.mono (by omega))).trans ((I.below (by omega)).mono (by omega))⟩)
 clear I U d7 d6 d5 d4 d3 c2 d2 f7 N e9 a9 e8 a8 b0 f8 e6 a7 d1 d0 c9 a1
 go_loopw [4] (fun i wr=>∃(j:Nat)(v:Value)(l':List Plc),j<=l.length/\i=.int .i64 j/\RcInv w k A c j l wr (.slice eA k.ex.length eC) v l') (fun i _=>l.length -(intOf i).toNat)
 case atStart=>exact⟨0,_,_,by omega,rfl,g8.out⟩
 case round=>
  obtain⟨j,v,l',hj,rfl,q⟩:=hrel
  have B:=Hp q
  have h4:l.length<=1099511627775:=by have:=HF.len;unfold big at this;omega
  have r3:=heap_cell q.rbox 3
  simp only[GZ2,GZ0,GZ1]at r3
  by_cases u:j<l.length
  ·have g9:(j:Int)<l.length:=by omega
   clear q
   go_upto_region 6 with fail
   have HX:=Hp (HP.each l[j] (GZ9 _))
   have f6:=Hp (HF.each l[j] (GZ9 _))
   have e7:=Hp (show aD (l.take (j+1))=aD (l.take j)++[(l[j]'u).bare] by rw[List.take_succ_eq_append_getElem u,aD,List.map_append];rfl)
   obtain⟨ad,hA,h5,-⟩:=RS HP.row B.bel j u
   have r:=Hp (fun W(hb:Below w.heap.size w W)=>RS HP.row hb j u)
   obtain⟨y,hy⟩:=Nm (l[j]'u)
   simp only[<-hy]at HX f6 e7 r
   subst hA
   clear hy
   have g7:=Hp (show(l'.length+1)*128<=140737488351232 by
    have h1:=congrArg List.length B.like
    simp only[List.length_map,GY6]at h1
    have h2:=HF.len
    unfold big at h2
    omega)
   have cO:=Hp (fun W(hb:Below w.heap.size w W)=>copiedModule_any y.m W (HX.below hb) f6.out)
   refine wp_region_any (by kernel_rfl) ?_
   refine wpAny_inv (fun L a W=>∃s:RcSt,RcOk w k (some ad) c j l (.slice eA k.ex.length eC) v l' y ad s W/\L=s.L/\a=s.a _ _ _ _ _ _ _ _ _ _ _ _ _ _ _ _ _ _ _ _ _ _) (by kernel_rfl) ?_ ?_ ?_ _ _ _ _ (by decide) ⟨⟨false,false,false,false,false,false,false,false,false,false,false,false,false,false,false,false,false,false,false,false,u22,u23,u24,u25,u26,u27,u28,u29,u30,u31,u32,u33,u34,u35,u36,u37,u38,u39,u40⟩,?_,rfl,rfl⟩
   ·rintro L a W ⟨s,_,rfl,_⟩;rfl
   ·rintro i L a W f ⟨s,d,rfl,rfl⟩
    have hi:i<20:=by
     obtain⟨_,o,ho,_⟩:=mem_ready.1 f
     exact(ZL ho)
    refine wpOp_gen fun KK e5=>?_
    have p:=Hp e5
    clear e5
    match i,hi,f,p with
    |0,_,f,p=>
     refine wpOp_at rfl ?_
     simp only[RcSt.a]
     go_simp
     rw[p.out];exact⟨_,rcs0 d,rfl,rfl⟩
    |1,_,f,p=>
     have c8:=d.f22 (up_at f rfl 0 (by kernel_rfl))
     have z:=heap_cell d.out 3
     have h2:s.l19=false:=by
      cases h3:s.l19 with
      |false=>rfl
      |true=>exact((d.e19 h3).symm.trans (mem_ready.1 f).1)
     rw[h2]at z
     simp only[GZ2,GZ0,GZ1,cond_false]at z
     refine wpOp_at rfl ?_
     simp only[RcSt.a,c8]
     go_simp
     rw[p.out];exact⟨_,rcs1 d,rfl,by simp only[RcSt.a,c8]⟩
    |2,_,f,p=>
     refine wpOp_at rfl ?_
     simp only[RcSt.a]
     go_simp
     rw[p.out];exact⟨_,rcs2 d,rfl,rfl⟩
    |3,_,f,p=>
     have z:=heap_cell d.rbox 3
     simp only[GZ2,GZ0,GZ1]at z
     have c7:=d.f24 (up_at f rfl 2 (by kernel_rfl))
     refine wpOp_at rfl ?_
     simp only[RcSt.a,c7]
     go_simp
     rw[p.out];exact⟨_,rcs3 d,rfl,by simp only[RcSt.a,c7]⟩
    |4,_,f,p=>
     refine wpOp_at rfl ?_
     simp only[RcSt.a]
     go_simp
     rw[p.out];exact⟨_,rcs4 d,rfl,rfl⟩
    |5,_,f,p=>
     have c5:=d.f25 (up_at f rfl 3 (by kernel_rfl))
     have c4:=d.f26 (up_at f rfl 4 (by kernel_rfl))
     refine wpOp_at rfl ?_
     simp only[RcSt.a,c5,c4]
     go_simp
     rw[p.out];exact⟨_,rcs5 d,rfl,by simp only[RcSt.a,c5,c4]⟩
    |6,_,f,p=>
     have c3:=d.f27 (up_at f rfl 5 (by kernel_rfl))
     refine wpOp_at rfl ?_
     simp only[RcSt.a,c3]
     go_simp
     rw[p.out];exact⟨_,rcs6 d,rfl,by simp only[RcSt.a,c3]⟩
    |7,_,f,p=>
     obtain⟨g6,hA,_,p0,p1,p2,p3,p4,p5,p6,p7⟩:=r.out W d.bel
     obtain rfl:=GY3 hA
     have c1:=d.f28 (up_at f rfl 6 (by kernel_rfl))
     refine wpOp_at rfl ?_
     simp only[RcSt.a,c1]
     go_simp
     rw[p.out];exact⟨_,rcs7 d,rfl,by simp only[RcSt.a,c1]⟩
    |9,_,f,p=>
     refine wpOp_at rfl ?_
     simp only[RcSt.a]
     go_simp
     rw[p.out];exact⟨_,rcs9 d,rfl,rfl⟩
    |10,_,f,p=>
     have z:=heap_cell d.rbox 3
     simp only[GZ2,GZ0,GZ1]at z
     have b8:=d.f31 (up_at f rfl 9 (by kernel_rfl))
     refine wpOp_at rfl ?_
     simp only[RcSt.a,b8]
     go_simp
     rw[p.out];exact⟨_,rcs10 d,rfl,by simp only[RcSt.a,b8]⟩
    |11,_,f,p=>
     refine wpOp_at rfl ?_
     simp only[RcSt.a]
     go_simp
     rw[p.out];exact⟨_,rcs11 d,rfl,rfl⟩
    |12,_,f,p=>
     have b7:=d.f32 (up_at f rfl 10 (by kernel_rfl))
     have b6:=d.f33 (up_at f rfl 11 (by kernel_rfl))
     refine wpOp_at rfl ?_
     simp only[RcSt.a,b7,b6]
     go_simp
     rw[p.out];exact⟨_,rcs12 d,rfl,by simp only[RcSt.a,b7,b6]⟩
    |13,_,f,p=>
     have b5:=d.f34 (up_at f rfl 12 (by kernel_rfl))
     refine wpOp_at rfl ?_
     simp only[RcSt.a,b5]
     go_simp
     rw[p.out];exact⟨_,rcs13 d,rfl,by simp only[RcSt.a,b5]⟩
    |14,_,f,p=>
     obtain⟨g6,hA,_,p0,p1,p2,p3,p4,p5,p6,p7⟩:=r.out W d.bel
     obtain rfl:=GY3 hA
     have b4:=d.f35 (up_at f rfl 13 (by kernel_rfl))
     refine wpOp_at rfl ?_
     simp only[RcSt.a,b4]
     go_simp
     rw[p.out];exact⟨_,rcs14 d,rfl,by simp only[RcSt.a,b4]⟩
    |18,_,f,p=>
     refine wpOp_at rfl ?_
     simp only[RcSt.a]
     go_simp
     rw[p.out];exact⟨_,rcs18 d,rfl,rfl⟩
    |8,_,f,p=>
     have c0:=d.f29 (up_at f rfl 7 (by kernel_rfl))
     refine wpOp_at rfl ?_
     simp only[RcSt.a,c0]
     go_simp
     go_at_call 50
     (with_reducible refine(cO.out W d.bel).mono ?_);rintro e w5 ⟨⟨m',rfl,g1,g2⟩,g5⟩
     rw[p.out];exact⟨_,rcs8 d g5 g1 g2,rfl,by simp only[RcSt.a,c0]⟩
    |15,_,f,p=>
     obtain⟨m',b9,h1⟩:=d.o30 (up_at f rfl 8 (by kernel_rfl))
     have b3:=d.f36 (up_at f rfl 14 (by kernel_rfl))
     refine wpOp_at rfl ?_
     simp only[RcSt.a,b9,b3]
     go_simp
     rw[p.out];exact⟨_,rcs15 d h1,rfl,by simp only[RcSt.a,b9,b3]⟩
    |16,_,f,p=>
     obtain⟨m',b2,h1⟩:=d.o37 (up_at f rfl 15 (by kernel_rfl))
     refine wpOp_at rfl ?_
     simp only[RcSt.a,b2]
     go_simp
     rw[p.out];exact⟨_,rcs16 d h1,rfl,by simp only[RcSt.a,b2]⟩
    |17,_,f,p=>
     have g0:=d.f23 (up_at f rfl 1 (by kernel_rfl))
     have a6:s.l17=false:=(mem_ready.1 f).1
     obtain⟨m',b,f9,hb,h1⟩:=d.o38 (up_at f rfl 16 (by kernel_rfl)) a6
     have hr:=d.row a6
     have h2:s.l19=false:=by
      cases h3:s.l19 with
      |false=>rfl
      |true=>exact((d.d19 h3).symm.trans a6)
     refine wpOp_at rfl ?_
     refine step_plcsB W rfl (.tmp 23) (.tmp 38) rfl (w.heap.size+3) v l' g0 hr (some ⟨b,0,none⟩) 1 1 [⟨m',y.first⟩] f9 rfl (Ry (enc:=Plc.cells) (k:=8) (fun _=>rfl) hb rfl) g7.out (ZL d.out) ?_
     intro v' w6 a2 g4 g3
     obtain⟨A6,c6,rfl⟩:=bG a2
     have hk:Kp [83] W w6:=Kp.grown g3 fun g hg=>by
      obtain⟨c,fz,hk⟩:=own_kind hr g hg
      exact⟨c,_,fz,hk,by simp⟩
     simp only[GZ8,List.length_singleton]at a2 ⊢
     rw[p.out];exact⟨_,rcs17 d h1 a2 g4 hk h2,rfl,rfl⟩
    |19,_,f,p=>
     have b1:=d.f40 (up_at f rfl 18 (by kernel_rfl))
     have hl:=up_at f rfl 17 (by kernel_rfl)
     have z:=heap_cell d.out 3
     have zf:=heap_free d.out 3
     obtain⟨_,A',c',C,_⟩:=d.o39 hl
     have hS:=rcs19 d hl (up_at f rfl 1 (by kernel_rfl))
     rw[C]at hS
     refine wpOp_at rfl ?_
     simp only[RcSt.a,b1,C]
     go_simp
     rw[p.out];exact⟨_,hS,rfl,by simp only[RcSt.a,b1]⟩
    |n+20,hi,_,_=>exact absurd hi (by omega)
   ·rintro L a W ⟨s,d,rfl,rfl⟩ K
    obtain⟨m',A',c',C,Z,d8,a0⟩:=d.o39 (K 17 (by decide))
    have t:=d.out
    rw[show s.l19=true from K 19 (by decide),C]at t
    simp only[cond_true]at t
    have HN:=Hp (show RcInv w k (some ad) c (j+1) l W (.slice eA k.ex.length eC) (.slice A' (l'.length+1) c') (l'++[⟨m',y.first⟩]) from
     ⟨t,d.rbox,d.res,d.ex,Z,fun x P=>by
      rcases List.mem_append.1 P with P|P
      ·exact d.each x P
      ·rw[List.mem_singleton.1 P];exact a0,by
      rw[e7.out,aD,List.map_append,<-B.like,List.map_singleton]
      congr 2
      show Plc.bare _=Plc.bare _
      unfold Plc.bare
      rw[iL d8],d.bel⟩)
    clear d K C Z d8 a0 t
    simp only[RcSt.a]
    go_wp2_with fail
    go_roundw
    case rel=>exact⟨j+1,_,_,u,by go_num,HN.out⟩
    case measure=>(simp[intOf];try omega)
   ·have q:=B.out
    exact{f22:=fun e=>no_ft e,f23:=fun e=>no_ft e,f24:=fun e=>no_ft e,f25:=fun e=>no_ft e,f26:=fun e=>no_ft e,f27:=fun e=>no_ft e,f28:=fun e=>no_ft e,f29:=fun e=>no_ft e,f31:=fun e=>no_ft e,f32:=fun e=>no_ft e,f33:=fun e=>no_ft e,f34:=fun e=>no_ft e,f35:=fun e=>no_ft e,f36:=fun e=>no_ft e,f40:=fun e=>no_ft e,o30:=fun e=>no_ft e,o37:=fun e=>no_ft e,o38:=fun e=>no_ft e,o39:=fun e=>no_ft e,d19:=fun e=>no_ft e,e19:=fun e=>no_ft e,row:=fun _=>q.row,out:=q.out,rbox:=q.rbox,res:=q.res,ex:=q.ex,each:=fun x P=>(q.each x P).below (GZ4 _ _).drew,bel:=q.bel.drew}
  ·obtain rfl:j=l.length:=by omega
   obtain⟨A',c',rfl⟩:=bG q.row
   have z0:=heap_cell q.out 0
   have z1:=heap_cell q.out 1
   have z2:=heap_cell q.out 2
   have z3:=heap_cell q.out 3
   have r0:=heap_cell q.res 0
   have r1:=heap_cell q.res 1
   have r2:=heap_cell q.res 2
   have r4:=heap_cell q.res 3
   have q0:=heap_free q.res 0
   have q1:=heap_free q.res 1
   have q2:=heap_free q.res 2
   have q3:=heap_free q.res 3
   simp only[GZ2,GZ0,GZ1]at z0 z1 z2 z3 r0 r1 r2 r4
   clear q
   go_wp2_with fail
   obtain⟨hg,ho⟩:=gY B.res (.int .i64 k.major) (.int .i64 k.minor) (.slice eA k.ex.length eC) (.slice A' l'.length c')
   refine bodyPost_ret (results_cell_row rfl _ _ (w.heap.size+1) 39 _ (0,0) _ rfl hg Tryz.underlying39 rfl Tryz.RP) rfl ?_
   have a3:=ho.kp B.res (ts:=[39]) (by simp)
   exact⟨⟨⟨k.major,k.minor,k.ex,eA,eC⟩,A',l',c',rfl,rfl,by rw[B.like,List.take_length],⟨RH (own_kp B.ex a3 (by decide)) (by omega),⟨RH (own_kp B.row a3 (by decide)) (by omega),fun x P=>((B.each x P).kp a3 (by decide) (by decide) (by decide)).le (by omega)⟩⟩⟩,B.bel.trans ((ho.below (GY2 (ZL B.res))).mono (by omega))⟩
end
section
open Go
open Go.RowKit Go.Lib
structure RpSt where
 (l0 l1 l2 l3 l4 l5 l6 l7:Bool)
 (t67 t68 t69 t70 t7 t8:Value)
def RpSt.L (s:RpSt):Array Bool:=#[s.l0,s.l1,s.l2,s.l3,s.l4,s.l5,s.l6,s.l7]
def RpSt.a (s:RpSt)(B:Array Value):Act:={tmps:=(((((B.setIfInBounds 67 s.t67).setIfInBounds 68 s.t68).setIfInBounds 69 s.t69).setIfInBounds 70 s.t70).setIfInBounds 7 s.t7).setIfInBounds 8 s.t8,defers:=[]}
section
variable (w:World) (k:Krn) (A:Option Addr) (c:Nat) (l:List Plc) (m:Mod)
def RpReg (v:Value)(W:World):Prop:=∃(a:Krn)(d:Option Addr)(b:List Plc)(c:Nat),v=.agg #[.int .i64 a.major,.int .i64 a.minor,.slice a.eA a.ex.length a.eC,.slice d b.length c]/\a.bare=k.bare/\aD b=aD l/\jS W w.heap.size a d b c
def RpMod (v:Value)(W:World):Prop:=∃n:Mod,v=.agg #[.string n.name,.int .i64 n.major,.int .i64 n.minor,.string n.text,.slice n.eA n.ex.length n.eC,.slice n.iA n.im.length n.iC,.slice n.pA n.pa.length n.pC]/\gI n m/\n.own W w.heap.size
def RpRegB (v:Value)(W:World):Prop:=∃(b:Nat)(a:Krn)(e:Option Addr)(c:List Plc)(d:Nat),v=.pointer (some ⟨b,0,none⟩)/\w.heap.size<=b/\W.heap[b]? =some (.cells #[.int .i64 a.major,.int .i64 a.minor,.slice a.eA a.ex.length a.eC,.slice e c.length d] 39 (0,0))/\a.bare=k.bare/\aD c=aD l/\jS W w.heap.size a e c d
def RpModB (v:Value)(W:World):Prop:=∃(b:Nat)(n:Mod),v=.pointer (some ⟨b,0,none⟩)/\w.heap.size<=b/\W.heap[b]? =some (.cells #[.string n.name,.int .i64 n.major,.int .i64 n.minor,.string n.text,.slice n.eA n.ex.length n.eC,.slice n.iA n.im.length n.iC,.slice n.pA n.pa.length n.pC] 70 (0,0))/\gI n m/\n.own W w.heap.size
structure RpOk (s:RpSt)(W:World):Prop where
 v67:s.l0=true->s.t67=.agg #[.int .i64 k.major,.int .i64 k.minor,.slice k.eA k.ex.length k.eC,.slice A l.length c]
 o68:s.l1=true->RpReg w k l s.t68 W
 v69:s.l2=true->s.t69=.agg #[.string m.name,.int .i64 m.major,.int .i64 m.minor,.string m.text,.slice m.eA m.ex.length m.eC,.slice m.iA m.im.length m.iC,.slice m.pA m.pa.length m.pC]
 o70:s.l3=true->RpMod w m s.t70 W
 a7:s.l4=true->s.l6=false->∃b,s.t7=.pointer (some ⟨b,0,none⟩)/\w.heap.size<=b/\W.heap[b]? =some (.cells #[.int .i64 0,.int .i64 0,.slice none 0 0,.slice none 0 0] 39 (0,0))
 a8:s.l5=true->s.l7=false->∃b,s.t8=.pointer (some ⟨b,0,none⟩)/\w.heap.size<=b/\W.heap[b]? =some (.cells #[.string ⟨#[]⟩,.int .i64 0,.int .i64 0,.string ⟨#[]⟩,.slice none 0 0,.slice none 0 0,.slice none 0 0] 70 (0,0))
 b7:s.l6=true->RpRegB w k l s.t7 W
 d6:s.l6=true->s.l4=true
 d7:s.l7=true->s.l5=true
 b8:s.l7=true->RpModB w m s.t8 W
 bel:Below w.heap.size w W
end
section
variable {w:World} {k:Krn} {A:Option Addr} {c:Nat} {l:List Plc} {m:Mod} {s:RpSt} {W W':World}
theorem RpReg.kp {ts:List TypeId}{v:Value}(h:RpReg w k l v W)(g:Kp ts W W')(n:83 ∉ ts)(m:159 ∉ ts)(j:173 ∉ ts)(i:180 ∉ ts):RpReg w k l v W':=by
 obtain⟨f,p,d,o,e,c,b,a⟩:=h
 exact⟨f,p,d,o,e,c,b,a.kp g n m j i⟩
theorem RpMod.kp {ts:List TypeId}{v:Value}(h:RpMod w m v W)(c:Kp ts W W')(g:159 ∉ ts)(f:173 ∉ ts)(d:180 ∉ ts):RpMod w m v W':=by
 obtain⟨n,e,b,a⟩:=h
 exact⟨n,e,b,a.kp c g f d⟩
theorem RpRegB.kp {ts:List TypeId}{v:Value}(h:RpRegB w k l v W)(a:Kp ts W W')(r:83 ∉ ts)(q:159 ∉ ts)(p:173 ∉ ts)(o:180 ∉ ts)(n:39 ∉ ts):RpRegB w k l v W':=by
 obtain⟨b,i,t,g,s,e,m,j,f,d,c⟩:=h
 exact⟨b,i,t,g,s,e,m,a _ _ _ _ j n,f,d,c.kp a r q p o⟩
theorem RpModB.kp {ts:List TypeId}{v:Value}(h:RpModB w m v W)(a:Kp ts W W')(l:159 ∉ ts)(k:173 ∉ ts)(j:180 ∉ ts)(i:70 ∉ ts):RpModB w m v W':=by
 obtain⟨b,n,e,g,f,d,c⟩:=h
 exact⟨b,n,e,g,a _ _ _ _ f i,d,c.kp a l k j⟩
theorem rpExt (h:RpOk w k A c l m s W)(d:Below W.heap.size W W'):RpOk w k A c l m s W':=
 have a:Kp [] W W':=Kp.of_below d
 {h with o68:=fun e=>(h.o68 e).kp a (by simp) (by simp) (by simp) (by simp),o70:=fun e=>(h.o70 e).kp a (by simp) (by simp) (by simp),a7:=fun e b=>(h.a7 e b).imp fun _ q=>⟨q.1,q.2.1,a _ _ _ _ q.2.2 (by simp)⟩,a8:=fun e b=>(h.a8 e b).imp fun _ q=>⟨q.1,q.2.1,a _ _ _ _ q.2.2 (by simp)⟩,b7:=fun e=>(h.b7 e).kp a (by simp) (by simp) (by simp) (by simp) (by simp),b8:=fun e=>(h.b8 e).kp a (by simp) (by simp) (by simp) (by simp),bel:=h.bel.trans (d.mono h.bel.size)}
theorem rps0 (h:RpOk w k A c l m s W):RpOk w k A c l m {s with l0:=true,t67:=.agg #[.int .i64 k.major,.int .i64 k.minor,.slice k.eA k.ex.length k.eC,.slice A l.length c]} W:={h with v67:=fun _=>rfl}
theorem rps1 (h:RpOk w k A c l m s W){v:Value}(j:RpReg W k l v W')(i:Below W.heap.size W W'):RpOk w k A c l m {s with l1:=true,t68:=v} W':=by
 have n:=rpExt h i
 obtain⟨g,p,f,o,e,d,b,a⟩:=j
 exact{n with o68:=fun _=>⟨g,p,f,o,e,d,b,⟨RH a.ex h.bel.size,a.mods.le h.bel.size⟩⟩}
theorem rps2 (h:RpOk w k A c l m s W):RpOk w k A c l m {s with l2:=true,t69:=.agg #[.string m.name,.int .i64 m.major,.int .i64 m.minor,.string m.text,.slice m.eA m.ex.length m.eC,.slice m.iA m.im.length m.iC,.slice m.pA m.pa.length m.pC]} W:={h with v69:=fun _=>rfl}
theorem rps3 (h:RpOk w k A c l m s W){v:Value}(f:RpMod W m v W')(d:Below W.heap.size W W'):RpOk w k A c l m {s with l3:=true,t70:=v} W':=by
 have g:=rpExt h d
 obtain⟨n,e,b,a⟩:=f
 exact{g with o70:=fun _=>⟨n,e,b,a.le h.bel.size⟩}
theorem rps4 (h:RpOk w k A c l m s W)(a:s.l6=false):RpOk w k A c l m {s with l4:=true,t7:=.pointer (some ⟨W.heap.size,0,none⟩)} (W.alloc (.cells #[.int .i64 0,.int .i64 0,.slice none 0 0,.slice none 0 0] 39)):=
 have b:=rpExt h (ZB:Below W.heap.size W (W.alloc (.cells #[.int .i64 0,.int .i64 0,.slice none 0 0,.slice none 0 0] 39)))
 {b with a7:=fun _ _=>⟨_,rfl,h.bel.size,heap_alloc_new W _⟩,b7:=fun e=>absurd (a.symm.trans e) (by decide),d6:=fun _=>rfl}
theorem rps5 (h:RpOk w k A c l m s W)(a:s.l7=false):RpOk w k A c l m {s with l5:=true,t8:=.pointer (some ⟨W.heap.size,0,none⟩)} (W.alloc (.cells #[.string ⟨#[]⟩,.int .i64 0,.int .i64 0,.string ⟨#[]⟩,.slice none 0 0,.slice none 0 0,.slice none 0 0] 70)):=
 have b:=rpExt h (ZB:Below W.heap.size W (W.alloc (.cells #[.string ⟨#[]⟩,.int .i64 0,.int .i64 0,.string ⟨#[]⟩,.slice none 0 0,.slice none 0 0,.slice none 0 0] 70)))
 {b with a8:=fun _ _=>⟨_,rfl,h.bel.size,heap_alloc_new W _⟩,b8:=fun e=>absurd (a.symm.trans e) (by decide),d7:=fun _=>rfl}
theorem rps6 (h:RpOk w k A c l m s W){b:Nat}{a:Krn}{j:Option Addr}{d:List Plc}{i:Nat}(v:s.t7=.pointer (some ⟨b,0,none⟩))(f:w.heap.size<=b)(n:W.heap[b]? =some (.cells #[.int .i64 0,.int .i64 0,.slice none 0 0,.slice none 0 0] 39 (0,0)))(t:a.bare=k.bare)(r:aD d=aD l)(p:jS W w.heap.size a j d i)(x:s.l4=true):
  RpOk w k A c l m {s with l6:=true} ((((W.setCell ⟨b,0,none⟩ (.int .i64 a.major)).setCell ⟨b,1,none⟩ (.int .i64 a.minor)).setCell ⟨b,2,none⟩ (.slice a.eA a.ex.length a.eC)).setCell ⟨b,3,none⟩ (.slice j d.length i)):=by
 obtain⟨u,o⟩:=gY n (.int .i64 a.major) (.int .i64 a.minor) (.slice a.eA a.ex.length a.eC) (.slice j d.length i)
 have g:=o.kp n (ts:=[39]) (by simp)
 exact{h with o68:=fun e=>(h.o68 e).kp g (by decide) (by decide) (by decide) (by decide),o70:=fun e=>(h.o70 e).kp g (by decide) (by decide) (by decide),a7:=fun _ e=>no_tf e,a8:=fun e y=>(h.a8 e y).imp fun _ q=>⟨q.1,q.2.1,g _ _ _ _ q.2.2 (by decide)⟩,d6:=fun _=>x,b7:=fun _=>⟨b,a,j,d,i,v,f,u,t,r,p.kp g (by decide) (by decide) (by decide) (by decide)⟩,b8:=fun e=>(h.b8 e).kp g (by decide) (by decide) (by decide) (by decide),bel:=h.bel.trans ((o.below (GY2 (ZL n))).mono f)}
theorem rps7 (h:RpOk w k A c l m s W){b:Nat}{n:Mod}(p:s.t8=.pointer (some ⟨b,0,none⟩))(a:w.heap.size<=b)(f:W.heap[b]? =some (.cells #[.string ⟨#[]⟩,.int .i64 0,.int .i64 0,.string ⟨#[]⟩,.slice none 0 0,.slice none 0 0,.slice none 0 0] 70 (0,0)))(j:gI n m)(i:n.own W w.heap.size)(r:s.l5=true):
  RpOk w k A c l m {s with l7:=true} (((((((W.setCell ⟨b,0,none⟩ (.string n.name)).setCell ⟨b,1,none⟩ (.int .i64 n.major)).setCell ⟨b,2,none⟩ (.int .i64 n.minor)).setCell ⟨b,3,none⟩ (.string n.text)).setCell ⟨b,4,none⟩ (.slice n.eA n.ex.length n.eC)).setCell ⟨b,5,none⟩ (.slice n.iA n.im.length n.iC)).setCell ⟨b,6,none⟩ (.slice n.pA n.pa.length n.pC)):=by
 obtain⟨o,g⟩:=set7 f (.string n.name) (.int .i64 n.major) (.int .i64 n.minor) (.string n.text) (.slice n.eA n.ex.length n.eC) (.slice n.iA n.im.length n.iC) (.slice n.pA n.pa.length n.pC)
 have d:=g.kp f (ts:=[70]) (by simp)
 exact{h with o68:=fun e=>(h.o68 e).kp d (by decide) (by decide) (by decide) (by decide),o70:=fun e=>(h.o70 e).kp d (by decide) (by decide) (by decide),a7:=fun e t=>(h.a7 e t).imp fun _ q=>⟨q.1,q.2.1,d _ _ _ _ q.2.2 (by decide)⟩,a8:=fun _ e=>no_tf e,b7:=fun e=>(h.b7 e).kp d (by decide) (by decide) (by decide) (by decide) (by decide),d7:=fun _=>r,b8:=fun _=>⟨b,n,p,a,o,j,i.kp d (by decide) (by decide) (by decide)⟩,bel:=h.bel.trans ((g.below (GY2 (ZL f))).mono a)}
end
end
end Go.Proofs.YtjiedaialianmaaGreat
